/-
  The contracts of renref14.has, conflict, data, Conflict, Data. No condition.
-/
import Derived.Test.YthmkcgiiakinmaaRvBefore
import Derived.Test.YthmkcgiiakinmaaRaceLaw
namespace Go.Ren
def rngB (L : Lg) (a b : Int) : Bool := decide (0 ≤ a ∧ a < (L.ev.length : Int) ∧ 0 ≤ b ∧ b < (L.ev.length : Int) ∧ a ≠ b)
def rcfB (L : Lg) (a b : Int) : Bool := rngB L a b && unB L a.toNat b.toNat
theorem cfB_rcf (L : Lg) (a b : Int) : cfB L a b = (mayL L && rcfB L a b) := by unfold cfB twoB rcfB rngB; rw [Bool.and_assoc]
theorem dtB_rcf (L : Lg) (a b : Int) : dtB L a b = (mayL L && (rcfB L a b && rcB L a b)) := by unfold dtB; rw [cfB_rcf, Bool.and_assoc]
end Go.Ren
namespace Go.Proofs.Ythmkcgiiakinmaa
open Go.Ren Go.RowKit
set_option linter.unusedVariables false
set_option maxRecDepth 100000 in
theorem rhas_any (w : World) (v : Value) (l : List Int) (h : IntsAt w v l) (n : Int) :
    Calls Try.prog 92 #[v, .int .i64 n] w (FPost (l.contains n) w) := by
  have l1 := h.sl.run_len (P := Try.prog) II.und 3
  have HJ := Lib.hid (h.sl.run_idx (P := Try.prog) II.und II.size .i64)
  have hlen : (l.length : Int) ≤ 9223372036854775807 := by
    obtain ⟨a, c, -, h1, h2, -⟩ := h.sl.shape
    simp only [maxLen] at h2; omega
  have KE : Hid (∀ w', Ext w w' → IntsAt w' v l) := Lib.hid fun w' x => h.ext x
  obtain ⟨B, hB⟩ : ∃ B, B = l.contains n := ⟨_, rfl⟩
  rw [← hB]
  have HB := Lib.hid hB
  clear h hB
  go_enter Try.func92, Try.ntmps92
  go_wp2_with fail
  go_loopw [5] (fun s wr => ∃ k : Nat, k ≤ l.length ∧ s = .int .i64 (k : Int) ∧ (∀ j (hj : j < l.length), j < k → l[j] ≠ n) ∧ Ext w wr) (fun s _ => l.length - (intOf s).toNat)
  case atStart => exact ⟨0, Nat.zero_le _, rfl, fun j _ hj => absurd hj (Nat.not_lt_zero _), Mod.refl _ _⟩
  case round =>
    obtain ⟨k, hk, rfl, hp, x⟩ := hrel
    have HP := Lib.hid (And.intro hp x)
    have hia := KE.out _ x
    clear hp x
    by_cases hlt : k < l.length
    · have hlt' : (k : Int) < (l.length : Int) := by omega
      have j0 := HJ.out k hlt
      simp only [Nat.mul_one] at j0
      have cF := hia.cell hlt
      obtain ⟨x, hx⟩ : ∃ x, x = l[k] := ⟨_, rfl⟩
      rw [← hx] at cF
      clear hia
      by_cases hxn : x = n
      · have e0 : (x == n) = true := by simpa using hxn
        have HT : Hid (l.contains n = true) := Lib.hid (by rw [List.contains_iff_mem, ← hxn, hx]; exact List.getElem_mem hlt)
        clear hxn hx
        go_wp2_with fail
        go_ret
        exact ⟨ret_bool (by rw [HB.out]; exact HT.out.symm), HP.out.2⟩
      · have e0 : (x == n) = false := by simpa using hxn
        have HT : Hid (∀ j (hj : j < l.length), j < k + 1 → l[j] ≠ n) := Lib.hid fun j hj hjk => by
          by_cases e : j = k
          · subst e; rw [← hx]; exact hxn
          · exact HP.out.1 j hj (by omega)
        clear hxn hx
        go_wp2_with fail
        go_roundw
        case rel => exact ⟨k + 1, by omega, by go_num, HT.out, HP.out.2⟩
        case measure => simp [intOf]; omega
    · have hlt' : ¬ (k : Int) < (l.length : Int) := by omega
      have HT : Hid (l.contains n = false) := Lib.hid (by
        cases hc : l.contains n with
        | false => rfl
        | true =>
          rw [List.contains_iff_mem] at hc
          obtain ⟨j, hj, e⟩ := List.getElem_of_mem hc
          exact absurd e (HP.out.1 j hj (by omega)))
      clear hia
      go_wp2_with fail
      go_ret
      exact ⟨ret_bool (by rw [HB.out]; exact HT.out.symm), HP.out.2⟩
set_option maxRecDepth 100000 in
set_option maxHeartbeats 1600000 in
theorem rconflict_any (w : World) (ve vp : Value) (V : Nat → Vs) (L : Lg) (h : LogIn w ve vp V L) (rv : Value) (R : Nat → Value) (hr : RRel w rv R L.ev.length (hbB L)) (a b : Int) :
    Calls Try.prog 59 #[.agg #[ve, vp], rv, .int .i64 a, .int .i64 b] w (FPost (rcfB L a b) w) := by
  have hle : (L.ev.length : Int) ≤ 64 := by have := hr.le; omega
  obtain ⟨B, hB⟩ : ∃ B, B = rcfB L a b := ⟨_, rfl⟩
  rw [← hB]
  have q1 := Sl.cells_eq h.row
  have q2 := Sl.cells_eq h.prow
  have s1 := Sl.run_st (P := Try.prog) h.row
  have s2 := Sl.run_st (P := Try.prog) h.prow
  obtain ⟨w0, hw0⟩ : ∃ w0, w0 = w.alloc (.cells #[ve, vp] 30) := ⟨_, rfl⟩
  obtain ⟨g0, hg0⟩ : ∃ g, g = w.heap.size := ⟨_, rfl⟩
  have x0 : Ext w w0 := by rw [hw0]; exact (Mod.refl _ _).alloc _
  have b0 : RLogBox w0 g0 ve vp := ⟨by rw [hw0, hg0]; exact heap_alloc_new _ _⟩
  have HW := Lib.hid (And.intro hw0 (And.intro hg0 x0))
  have KE : Hid (∀ w', Ext w0 w' → LogIn w' ve vp V L ∧ RLogBox w' g0 ve vp) := Lib.hid fun w' x => ⟨h.ext (x0.trans x), b0.ext x⟩
  have KF : Hid (∀ w', Ext w0 w' → w'.cell? ⟨g0, 0, none⟩ = some ve ∧ w'.cell? ⟨g0, 1, none⟩ = some vp) := Lib.hid fun w' x => (b0.ext x).cells
  have l1 := h.row.run_len (P := Try.prog) IRe.und 3
  have HI := Lib.hid (h.row.run_idx (P := Try.prog) IRe.und IRe.size .i64)
  have HRR := Lib.hid (hr.ext x0)
  clear h hr
  rcases (by omega : a < 0 ∨ (0 ≤ a ∧ (L.ev.length : Int) ≤ a) ∨ (0 ≤ a ∧ a < (L.ev.length : Int) ∧ b < 0) ∨ (0 ≤ a ∧ a < (L.ev.length : Int) ∧ 0 ≤ b ∧ (L.ev.length : Int) ≤ b) ∨ (0 ≤ a ∧ a < (L.ev.length : Int) ∧ 0 ≤ b ∧ b < (L.ev.length : Int) ∧ a = b) ∨ (0 ≤ a ∧ a < (L.ev.length : Int) ∧ 0 ≤ b ∧ b < (L.ev.length : Int) ∧ a ≠ b)) with z | ⟨z, z1⟩ | ⟨z, z1, z2⟩ | ⟨z, z1, z2, z3⟩ | ⟨z, z1, z2, z3, z4⟩ | ⟨z, z1, z2, z3, z4⟩
  case inr.inr.inr.inr.inr =>
    obtain ⟨a, rfl⟩ := Int.eq_ofNat_of_zero_le z
    obtain ⟨b, rfl⟩ := Int.eq_ofNat_of_zero_le z2
    have ha : a < L.ev.length := by omega
    have hb : b < L.ev.length := by omega
    have hne : ((a : Int) == (b : Int)) = false := by simpa using z4
    have hBu : B = unB L a b := by
      rw [hB]; unfold rcfB rngB
      have : decide (0 ≤ (a : Int) ∧ (a : Int) < (L.ev.length : Int) ∧ 0 ≤ (b : Int) ∧ (b : Int) < (L.ev.length : Int) ∧ (a : Int) ≠ (b : Int)) = true := by rw [decide_eq_true_eq]; exact ⟨z, z1, z2, z3, z4⟩
      rw [this, Bool.true_and]; rfl
    have i0 := HI.out a ha
    have i1 := HI.out b hb
    obtain ⟨x, hx⟩ : ∃ e, e = evn L.ev a := ⟨_, rfl⟩
    obtain ⟨u, hu⟩ : ∃ v, v = V a := ⟨_, rfl⟩
    obtain ⟨y, hy⟩ : ∃ e, e = evn L.ev b := ⟨_, rfl⟩
    obtain ⟨v, hv⟩ : ∃ v, v = V b := ⟨_, rfl⟩
    obtain ⟨A1, hA1⟩ : ∃ A, A = at_ ve (a * 10) := ⟨_, rfl⟩
    obtain ⟨A2, hA2⟩ : ∃ A, A = at_ ve (b * 10) := ⟨_, rfl⟩
    rw [← hA1] at i0
    rw [← hA2] at i1
    have KXY : Hid (EvAt w0 x u ∧ EvAt w0 y v) := Lib.hid ⟨by rw [hx, hu]; exact ((KE.out _ (Mod.refl _ _)).1).ev a ha, by rw [hy, hv]; exact ((KE.out _ (Mod.refl _ _)).1).ev b hb⟩
    have KF2 : Hid (∀ w', Ext w0 w' → w'.cell? ⟨g0, 0, none⟩ = some ve ∧ w'.cell? A1 = some (.int .i64 (x).ag) ∧ w'.cell? ⟨A1.block, A1.off + 1, none⟩ = some (.int .i64 (x).kind) ∧ w'.cell? ⟨A1.block, A1.off + 2, none⟩ = some (.bool (x).seq) ∧ w'.cell? ⟨A1.block, A1.off + 3, none⟩ = some (.bool (x).nt) ∧ w'.cell? ⟨A1.block, A1.off + 4, none⟩ = some (.int .i64 (x).blk) ∧ w'.cell? ⟨A1.block, A1.off + 5, none⟩ = some (.int .i64 (x).at_) ∧ w'.cell? ⟨A1.block, A1.off + 6, none⟩ = some (.int .i64 (x).size) ∧ w'.cell? ⟨A1.block, A1.off + 7, none⟩ = some u.r ∧ w'.cell? ⟨A1.block, A1.off + 8, none⟩ = some u.w ∧ w'.cell? ⟨A1.block, A1.off + 9, none⟩ = some u.f ∧ w'.cell? A2 = some (.int .i64 (y).ag) ∧ w'.cell? ⟨A2.block, A2.off + 1, none⟩ = some (.int .i64 (y).kind) ∧ w'.cell? ⟨A2.block, A2.off + 2, none⟩ = some (.bool (y).seq) ∧ w'.cell? ⟨A2.block, A2.off + 3, none⟩ = some (.bool (y).nt) ∧ w'.cell? ⟨A2.block, A2.off + 4, none⟩ = some (.int .i64 (y).blk) ∧ w'.cell? ⟨A2.block, A2.off + 5, none⟩ = some (.int .i64 (y).at_) ∧ w'.cell? ⟨A2.block, A2.off + 6, none⟩ = some (.int .i64 (y).size) ∧ w'.cell? ⟨A2.block, A2.off + 7, none⟩ = some v.r ∧ w'.cell? ⟨A2.block, A2.off + 8, none⟩ = some v.w ∧ w'.cell? ⟨A2.block, A2.off + 9, none⟩ = some v.f) := Lib.hid fun w' z => by
      have h2 := ((KE.out _ z).1).cells ha
      have h3 := ((KE.out _ z).1).cells hb
      rw [← hx, ← hu, ← hA1] at h2
      rw [← hy, ← hv, ← hA2] at h3
      obtain ⟨a0, a1, a2, a3, a4, a5, a6, a7, a8, a9⟩ := h2
      exact ⟨(KE.out _ z).2.cells.1, a0, a1, a2, a3, a4, a5, a6, a7, a8, a9, h3⟩
    obtain ⟨S1, hS1⟩ : ∃ S, S = x.seq := ⟨_, rfl⟩
    obtain ⟨S2, hS2⟩ : ∃ S, S = y.seq := ⟨_, rfl⟩
    obtain ⟨Q, hQ⟩ : ∃ Q, Q = evEq x y := ⟨_, rfl⟩
    obtain ⟨O, hO⟩ : ∃ O, O = evOver x y := ⟨_, rfl⟩
    obtain ⟨WX, hWX⟩ : ∃ O, O = wrsB x := ⟨_, rfl⟩
    obtain ⟨WY, hWY⟩ : ∃ O, O = wrsB y := ⟨_, rfl⟩
    obtain ⟨H1, hH1⟩ : ∃ O, O = hbB L a b := ⟨_, rfl⟩
    obtain ⟨H2, hH2⟩ : ∃ O, O = hbB L b a := ⟨_, rfl⟩
    have HB : Hid (B = (O && (WX || WY) && !H1 && !H2 && !(S1 && S2 && Q))) := Lib.hid (by rw [hBu, hO, hWX, hWY, hH1, hH2, hS1, hS2, hQ, hx, hy]; rfl)
    have HS := Lib.hid (And.intro hS1 hS2)
    have HQ := Lib.hid hQ.symm
    have HO := Lib.hid hO.symm
    have HWX := Lib.hid hWX.symm
    have HWY := Lib.hid hWY.symm
    have KR0 : Hid (∀ w', Ext w0 w' → w'.cell? (at_ rv a) = some (R a) ∧ w'.cell? (at_ (R a) b) = some (.bool H1) ∧ w'.cell? (at_ rv b) = some (R b) ∧ w'.cell? (at_ (R b) a) = some (.bool H2)) := Lib.hid fun w' z => by
      obtain ⟨f1, f2, -⟩ := (HRR.out.ext z).facts ha hb
      obtain ⟨f3, f4, -⟩ := (HRR.out.ext z).facts hb ha
      rw [← hH1] at f2
      rw [← hH2] at f4
      exact ⟨f1, f2, f3, f4⟩
    obtain ⟨j1, j2⟩ := HRR.out.idx ha hb
    obtain ⟨j3, j4⟩ := HRR.out.idx hb ha
    have k1 := (ev_facts KXY.out.1).1
    have k2 := (ev_facts KXY.out.1).2.1
    have k3 := (ev_facts KXY.out.1).2.2.1
    have k4 := (ev_facts KXY.out.2).1
    have k5 := (ev_facts KXY.out.2).2.1
    have k6 := (ev_facts KXY.out.2).2.2.1
    obtain ⟨c0, c1⟩ := b0.cells
    clear hw0 hg0 x0 b0 hB hBu hx hu hy hv hA1 hA2 hS1 hS2 hQ hO hWX hWY hH1 hH2 ha hb z4
    go_enter Try.func59, Try.ntmps59
    go_upto_region 1 with fail
    rw [← HW.out.1, ← HW.out.2.1]
    clear s1 s2
    go_upto_region 3 with fail
    clear c0 c1
    go_cut [9, 10] (fun s9 s10 wq => RTwoEv w0 x y u v s9 s10 wq)
    case first =>
      have ED : Ext w0 (World.drew w0) := Mod.drew (Mod.refl _ _)
      refine wp_region_planT [] (.take 0 0 (.take 1 0 (.take 2 0 (.take 3 0 (.take 4 0 (.take 5 0 (.take 6 0 (.take 7 0 (.take 8 0 (.take 9 0 (.fork (.alt 10 (.fork (.alt 11 (.fork (.alt 12 (.fork (.alt 13 .nil .noalt)) .noalt)) .noalt)) (.alt 11 (.fork (.alt 10 (.fork (.alt 12 (.fork (.alt 13 .nil .noalt)) .noalt)) .noalt)) .noalt))))))))))))) (fun w' => w'.cell? ⟨g0, 0, none⟩ = some ve ∧ w'.cell? A1 = some (.int .i64 (x).ag) ∧ w'.cell? ⟨A1.block, A1.off + 1, none⟩ = some (.int .i64 (x).kind) ∧ w'.cell? ⟨A1.block, A1.off + 2, none⟩ = some (.bool (x).seq) ∧ w'.cell? ⟨A1.block, A1.off + 3, none⟩ = some (.bool (x).nt) ∧ w'.cell? ⟨A1.block, A1.off + 4, none⟩ = some (.int .i64 (x).blk) ∧ w'.cell? ⟨A1.block, A1.off + 5, none⟩ = some (.int .i64 (x).at_) ∧ w'.cell? ⟨A1.block, A1.off + 6, none⟩ = some (.int .i64 (x).size) ∧ w'.cell? ⟨A1.block, A1.off + 7, none⟩ = some u.r ∧ w'.cell? ⟨A1.block, A1.off + 8, none⟩ = some u.w ∧ w'.cell? ⟨A1.block, A1.off + 9, none⟩ = some u.f ∧ w'.cell? A2 = some (.int .i64 (y).ag) ∧ w'.cell? ⟨A2.block, A2.off + 1, none⟩ = some (.int .i64 (y).kind) ∧ w'.cell? ⟨A2.block, A2.off + 2, none⟩ = some (.bool (y).seq) ∧ w'.cell? ⟨A2.block, A2.off + 3, none⟩ = some (.bool (y).nt) ∧ w'.cell? ⟨A2.block, A2.off + 4, none⟩ = some (.int .i64 (y).blk) ∧ w'.cell? ⟨A2.block, A2.off + 5, none⟩ = some (.int .i64 (y).at_) ∧ w'.cell? ⟨A2.block, A2.off + 6, none⟩ = some (.int .i64 (y).size) ∧ w'.cell? ⟨A2.block, A2.off + 7, none⟩ = some v.r ∧ w'.cell? ⟨A2.block, A2.off + 8, none⟩ = some v.w ∧ w'.cell? ⟨A2.block, A2.off + 9, none⟩ = some v.f) (by kernel_rfl) (by kernel_rfl) (by kernel_rfl) (fun _ d _ _ _ h => by cases d <;> exact h) (KF2.out _ ED) ?_
      simp (decide := true) only [planT, getO]
      (refine planT_take (v := ?_) (by rfl) (fun wS hS => ?_) ?_; rotate_left; (focus ((try dsimp only at hS); go_simp; (try with_reducible rfl); done)); (try simp only [Act.put, List.setIfInBounds_toArray, List.set_cons_zero, List.set_cons_succ]))
      (refine planT_take (v := ?_) (by rfl) (fun wS hS => ?_) ?_; rotate_left; (focus ((try dsimp only at hS); go_simp; (try with_reducible rfl); done)); (try simp only [Act.put, List.setIfInBounds_toArray, List.set_cons_zero, List.set_cons_succ]))
      (refine planT_take (v := ?_) (by rfl) (fun wS hS => ?_) ?_; rotate_left; (focus ((try dsimp only at hS); go_simp; (try with_reducible rfl); done)); (try simp only [Act.put, List.setIfInBounds_toArray, List.set_cons_zero, List.set_cons_succ]))
      (refine planT_take (v := ?_) (by rfl) (fun wS hS => ?_) ?_; rotate_left; (focus ((try dsimp only at hS); go_simp; (try with_reducible rfl); done)); (try simp only [Act.put, List.setIfInBounds_toArray, List.set_cons_zero, List.set_cons_succ]))
      (refine planT_take (v := ?_) (by rfl) (fun wS hS => ?_) ?_; rotate_left; (focus ((try dsimp only at hS); go_simp; (try with_reducible rfl); done)); (try simp only [Act.put, List.setIfInBounds_toArray, List.set_cons_zero, List.set_cons_succ]))
      (refine planT_take (v := ?_) (by rfl) (fun wS hS => ?_) ?_; rotate_left; (focus ((try dsimp only at hS); go_simp; (try with_reducible rfl); done)); (try simp only [Act.put, List.setIfInBounds_toArray, List.set_cons_zero, List.set_cons_succ]))
      (refine planT_take (v := ?_) (by rfl) (fun wS hS => ?_) ?_; rotate_left; (focus ((try dsimp only at hS); go_simp; (try with_reducible rfl); done)); (try simp only [Act.put, List.setIfInBounds_toArray, List.set_cons_zero, List.set_cons_succ]))
      (refine planT_take (v := ?_) (by rfl) (fun wS hS => ?_) ?_; rotate_left; (focus ((try dsimp only at hS); go_simp; (try with_reducible rfl); done)); (try simp only [Act.put, List.setIfInBounds_toArray, List.set_cons_zero, List.set_cons_succ]))
      (refine planT_take (v := ?_) (by rfl) (fun wS hS => ?_) ?_; rotate_left; (focus ((try dsimp only at hS); go_simp; (try with_reducible rfl); done)); (try simp only [Act.put, List.setIfInBounds_toArray, List.set_cons_zero, List.set_cons_succ]))
      (refine planT_take (v := ?_) (by rfl) (fun wS hS => ?_) ?_; rotate_left; (focus ((try dsimp only at hS); go_simp; (try with_reducible rfl); done)); (try simp only [Act.put, List.setIfInBounds_toArray, List.set_cons_zero, List.set_cons_succ]))
      refine planT_fork ?_
      refine planT_alloc rfl rfl (fun w => Try.zeroValue67 w) rfl (fun g1 w1 y1 hg1 hs1 hb1 => ?_) ?_
      · have E1 : Ext w0 w1 := Mod.trans ED y1
        have HG1 := Lib.hid (And.intro hg1 (And.intro hs1 (And.intro hb1 (And.intro E1 (And.intro y1 ED)))))
        clear hg1 hs1 hb1
        refine ⟨fun _ => KF2.out _ E1, ?_⟩
        (try simp only [Act.put, List.setIfInBounds_toArray, List.set_cons_zero, List.set_cons_succ])
        refine planT_fork ?_
        refine planT_alloc rfl rfl (fun w => Try.zeroValue67 w) rfl (fun g2 w2 y2 hg2 hs2 hb2 => ?_) planT_end
        have E2 : Ext w0 w2 := Mod.trans E1 y2
        have HG2 := Lib.hid (And.intro hg2 (And.intro hs2 (And.intro hb2 (And.intro E2 (And.intro y2 E1)))))
        clear hg2 hs2 hb2
        refine ⟨fun _ => KF2.out _ E2, ?_⟩
        (try simp only [Act.put, List.setIfInBounds_toArray, List.set_cons_zero, List.set_cons_succ])
        refine planT_fork ?_
        refine planT_store rfl rfl rfl rfl ((Ext.blk y2 HG1.out.2.2.1)) (by kernel_rfl) rfl (evArr_all (Sl.one (KXY.out.1).rd) (Sl.one (KXY.out.1).wr) (Sl.one (KXY.out.1).fr.sl)) (fun w3 m3 hs3 hb3 => ?_) planT_end
        have E3 : Ext w0 w3 := Mod.trans' E2 m3 (fun q hq => .inr (by obtain ⟨z1a, z1b, -, z1e, z1y, z1p⟩ := HG1.out; have z1f := z1e.size; have z1g := z1y.size; have z1q := z1p.size; obtain ⟨z2a, z2b, -, z2e, z2y, z2p⟩ := HG2.out; have z2f := z2e.size; have z2g := z2y.size; have z2q := z2p.size; have sy1 := y1.size; have sy2 := y2.size; subst hq; omega))
        have HG3 := Lib.hid (And.intro hs3 (And.intro hb3 m3))
        clear hs3 hb3
        refine ⟨fun _ => KF2.out _ E3, ?_⟩
        (try simp only [Act.put])
        refine planT_fork ?_
        refine planT_store rfl rfl rfl rfl ((Mod.blk m3 HG2.out.2.2.1 (by obtain ⟨z1a, z1b, -, z1e, z1y, z1p⟩ := HG1.out; have z1f := z1e.size; have z1g := z1y.size; have z1q := z1p.size; obtain ⟨z2a, z2b, -, z2e, z2y, z2p⟩ := HG2.out; have z2f := z2e.size; have z2g := z2y.size; have z2q := z2p.size; have sy1 := y1.size; have sy2 := y2.size; omega))) (by kernel_rfl) rfl (evArr_all (Sl.one (KXY.out.2).rd) (Sl.one (KXY.out.2).wr) (Sl.one (KXY.out.2).fr.sl)) (fun w4 m4 hs4 hb4 => ?_) planT_end
        have E4 : Ext w0 w4 := Mod.trans' E3 m4 (fun q hq => .inr (by obtain ⟨z1a, z1b, -, z1e, z1y, z1p⟩ := HG1.out; have z1f := z1e.size; have z1g := z1y.size; have z1q := z1p.size; obtain ⟨z2a, z2b, -, z2e, z2y, z2p⟩ := HG2.out; have z2f := z2e.size; have z2g := z2y.size; have z2q := z2p.size; have sy1 := y1.size; have sy2 := y2.size; subst hq; omega))
        have HG4 := Lib.hid (And.intro hs4 (And.intro hb4 m4))
        clear hs4 hb4
        refine ⟨fun _ => KF2.out _ E4, ?_⟩
        (try simp only [Act.put])
        refine planT_nil ?_
        go_wp2_with fail
        go_meet
        exact ⟨g1, g2, rfl, rfl, ⟨(Mod.blk m4 HG3.out.2.1 (by obtain ⟨z1a, z1b, -, z1e, z1y, z1p⟩ := HG1.out; have z1f := z1e.size; have z1g := z1y.size; have z1q := z1p.size; obtain ⟨z2a, z2b, -, z2e, z2y, z2p⟩ := HG2.out; have z2f := z2e.size; have z2g := z2y.size; have z2q := z2p.size; have sy1 := y1.size; have sy2 := y2.size; omega))⟩, ⟨HG4.out.2.1⟩, E4⟩
      refine planT_alloc rfl rfl (fun w => Try.zeroValue67 w) rfl (fun g5 w5 y5 hg5 hs5 hb5 => ?_) planT_end
      have E5 : Ext w0 w5 := Mod.trans ED y5
      have HG5 := Lib.hid (And.intro hg5 (And.intro hs5 (And.intro hb5 (And.intro E5 (And.intro y5 ED)))))
      clear hg5 hs5 hb5
      refine ⟨fun _ => KF2.out _ E5, ?_⟩
      (try simp only [Act.put, List.setIfInBounds_toArray, List.set_cons_zero, List.set_cons_succ])
      refine planT_fork ?_
      refine planT_alloc rfl rfl (fun w => Try.zeroValue67 w) rfl (fun g6 w6 y6 hg6 hs6 hb6 => ?_) planT_end
      have E6 : Ext w0 w6 := Mod.trans E5 y6
      have HG6 := Lib.hid (And.intro hg6 (And.intro hs6 (And.intro hb6 (And.intro E6 (And.intro y6 E5)))))
      clear hg6 hs6 hb6
      refine ⟨fun _ => KF2.out _ E6, ?_⟩
      (try simp only [Act.put, List.setIfInBounds_toArray, List.set_cons_zero, List.set_cons_succ])
      refine planT_fork ?_
      refine planT_store rfl rfl rfl rfl (HG6.out.2.2.1) (by kernel_rfl) rfl (evArr_all (Sl.one (KXY.out.1).rd) (Sl.one (KXY.out.1).wr) (Sl.one (KXY.out.1).fr.sl)) (fun w7 m7 hs7 hb7 => ?_) planT_end
      have E7 : Ext w0 w7 := Mod.trans' E6 m7 (fun q hq => .inr (by obtain ⟨z5a, z5b, -, z5e, z5y, z5p⟩ := HG5.out; have z5f := z5e.size; have z5g := z5y.size; have z5q := z5p.size; obtain ⟨z6a, z6b, -, z6e, z6y, z6p⟩ := HG6.out; have z6f := z6e.size; have z6g := z6y.size; have z6q := z6p.size; have sy5 := y5.size; have sy6 := y6.size; subst hq; omega))
      have HG7 := Lib.hid (And.intro hs7 (And.intro hb7 m7))
      clear hs7 hb7
      refine ⟨fun _ => KF2.out _ E7, ?_⟩
      (try simp only [Act.put])
      refine planT_fork ?_
      refine planT_store rfl rfl rfl rfl ((Mod.blk m7 (Ext.blk y6 HG5.out.2.2.1) (by obtain ⟨z5a, z5b, -, z5e, z5y, z5p⟩ := HG5.out; have z5f := z5e.size; have z5g := z5y.size; have z5q := z5p.size; obtain ⟨z6a, z6b, -, z6e, z6y, z6p⟩ := HG6.out; have z6f := z6e.size; have z6g := z6y.size; have z6q := z6p.size; have sy5 := y5.size; have sy6 := y6.size; omega))) (by kernel_rfl) rfl (evArr_all (Sl.one (KXY.out.2).rd) (Sl.one (KXY.out.2).wr) (Sl.one (KXY.out.2).fr.sl)) (fun w8 m8 hs8 hb8 => ?_) planT_end
      have E8 : Ext w0 w8 := Mod.trans' E7 m8 (fun q hq => .inr (by obtain ⟨z5a, z5b, -, z5e, z5y, z5p⟩ := HG5.out; have z5f := z5e.size; have z5g := z5y.size; have z5q := z5p.size; obtain ⟨z6a, z6b, -, z6e, z6y, z6p⟩ := HG6.out; have z6f := z6e.size; have z6g := z6y.size; have z6q := z6p.size; have sy5 := y5.size; have sy6 := y6.size; subst hq; omega))
      have HG8 := Lib.hid (And.intro hs8 (And.intro hb8 m8))
      clear hs8 hb8
      refine ⟨fun _ => KF2.out _ E8, ?_⟩
      (try simp only [Act.put])
      refine planT_nil ?_
      go_wp2_with fail
      go_meet
      exact ⟨g6, g5, rfl, rfl, ⟨(Mod.blk m8 HG7.out.2.1 (by obtain ⟨z5a, z5b, -, z5e, z5y, z5p⟩ := HG5.out; have z5f := z5e.size; have z5g := z5y.size; have z5q := z5p.size; obtain ⟨z6a, z6b, -, z6e, z6y, z6p⟩ := HG6.out; have z6f := z6e.size; have z6g := z6y.size; have z6q := z6p.size; have sy5 := y5.size; have sy6 := y6.size; omega))⟩, ⟨HG8.out.2.1⟩, E8⟩
    case rest =>
      obtain ⟨b1, b2, rfl, rfl, hc, KB⟩ := hcut.keep KXY.out.1 KXY.out.2
      rw [← HS.out.1, ← HS.out.2] at KB
      have KR := Lib.hid (fun w' (z : Ext wc w') => KR0.out w' (hc.trans z))
      clear hcut i0 i1
      obtain ⟨⟨d0, d1, d2, d3, d4, d5, d6, d7, d8, d9⟩, ⟨f0, f1, f2, f3, f4, f5, f6, f7, f8, f9⟩, -⟩ := KB.out _ (Mod.refl _ _)
      obtain ⟨e1, e2, e3, e4⟩ := KR.out _ (Mod.refl _ _)
      go_wp2_with fail
      refine (roverlap_any _ ⟨x.ag, x.kind, S1, x.nt, x.blk, x.at_, x.size, x.rd, x.wr, x.fr⟩ ⟨y.ag, y.kind, S2, y.nt, y.blk, y.at_, y.size, y.rd, y.wr, y.fr⟩ u v (KB.out _ (Mod.refl _ _)).2.2.1 (KB.out _ (Mod.refl _ _)).2.2.2).mono ?_
      rintro e v1 ⟨rfl, z1⟩
      have Z1 := Lib.hid (Mod.trans (Mod.refl _ _) z1)
      clear z1
      rw [show evOver ⟨x.ag, x.kind, S1, x.nt, x.blk, x.at_, x.size, x.rd, x.wr, x.fr⟩ ⟨y.ag, y.kind, S2, y.nt, y.blk, y.at_, y.size, y.rd, y.wr, y.fr⟩ = O from HO.out]
      (try clear d0 d1 d2 d3 d4 d5 d6 d7 d8 d9 f0 f1 f2 f3 f4 f5 f6 f7 f8 f9)
      obtain ⟨⟨d0, d1, d2, d3, d4, d5, d6, d7, d8, d9⟩, ⟨f0, f1, f2, f3, f4, f5, f6, f7, f8, f9⟩, -⟩ := KB.out _ Z1.out
      (try clear e1 e2 e3 e4)
      obtain ⟨e1, e2, e3, e4⟩ := KR.out _ Z1.out
      cases O with
      | false =>
        go_wp2_with fail
        go_ret
        exact ⟨ret_bool (by rw [HB.out]; rfl), (HW.out.2.2.trans hc).trans Z1.out⟩
      | true =>
        go_wp2_with fail
        refine (rwrites_any _ ⟨x.ag, x.kind, S1, x.nt, x.blk, x.at_, x.size, x.rd, x.wr, x.fr⟩ u (KB.out _ Z1.out).2.2.1).mono ?_
        rintro e v2 ⟨rfl, z2⟩
        have Z2 := Lib.hid (Mod.trans Z1.out z2)
        clear z2
        rw [show wrsB ⟨x.ag, x.kind, S1, x.nt, x.blk, x.at_, x.size, x.rd, x.wr, x.fr⟩ = WX from HWX.out]
        (try clear d0 d1 d2 d3 d4 d5 d6 d7 d8 d9 f0 f1 f2 f3 f4 f5 f6 f7 f8 f9)
        obtain ⟨⟨d0, d1, d2, d3, d4, d5, d6, d7, d8, d9⟩, ⟨f0, f1, f2, f3, f4, f5, f6, f7, f8, f9⟩, -⟩ := KB.out _ Z2.out
        (try clear e1 e2 e3 e4)
        obtain ⟨e1, e2, e3, e4⟩ := KR.out _ Z2.out
        cases WX with
        | true =>
          cases H1 with
          | true =>
            go_wp2_with fail
            go_ret
            exact ⟨ret_bool (by rw [HB.out]; rfl), (HW.out.2.2.trans hc).trans Z2.out⟩
          | false =>
            cases H2 with
            | true =>
              go_wp2_with fail
              go_ret
              exact ⟨ret_bool (by rw [HB.out]; rfl), (HW.out.2.2.trans hc).trans Z2.out⟩
            | false =>
              cases S1 with
              | false =>
                go_wp2_with fail
                go_ret
                exact ⟨ret_bool (by rw [HB.out]; rfl), (HW.out.2.2.trans hc).trans Z2.out⟩
              | true =>
                cases S2 with
                | false =>
                  go_wp2_with fail
                  go_ret
                  exact ⟨ret_bool (by rw [HB.out]; rfl), (HW.out.2.2.trans hc).trans Z2.out⟩
                | true =>
                  go_wp2_with fail
                  refine (requal_any _ ⟨x.ag, x.kind, true, x.nt, x.blk, x.at_, x.size, x.rd, x.wr, x.fr⟩ ⟨y.ag, y.kind, true, y.nt, y.blk, y.at_, y.size, y.rd, y.wr, y.fr⟩ u v (KB.out _ Z2.out).2.2.1 (KB.out _ Z2.out).2.2.2).mono ?_
                  rintro e v6 ⟨rfl, z6⟩
                  have Z6 := Lib.hid (Mod.trans Z2.out z6)
                  clear z6
                  rw [show evEq ⟨x.ag, x.kind, true, x.nt, x.blk, x.at_, x.size, x.rd, x.wr, x.fr⟩ ⟨y.ag, y.kind, true, y.nt, y.blk, y.at_, y.size, y.rd, y.wr, y.fr⟩ = Q from HQ.out]
                  (try clear d0 d1 d2 d3 d4 d5 d6 d7 d8 d9 f0 f1 f2 f3 f4 f5 f6 f7 f8 f9)
                  obtain ⟨⟨d0, d1, d2, d3, d4, d5, d6, d7, d8, d9⟩, ⟨f0, f1, f2, f3, f4, f5, f6, f7, f8, f9⟩, -⟩ := KB.out _ Z6.out
                  (try clear e1 e2 e3 e4)
                  obtain ⟨e1, e2, e3, e4⟩ := KR.out _ Z6.out
                  cases Q with
                  | false =>
                    go_wp2_with fail
                    go_ret
                    exact ⟨ret_bool (by rw [HB.out]; rfl), (HW.out.2.2.trans hc).trans Z6.out⟩
                  | true =>
                    go_wp2_with fail
                    go_ret
                    exact ⟨ret_bool (by rw [HB.out]; rfl), (HW.out.2.2.trans hc).trans Z6.out⟩
        | false =>
          go_wp2_with fail
          refine (rwrites_any _ ⟨y.ag, y.kind, S2, y.nt, y.blk, y.at_, y.size, y.rd, y.wr, y.fr⟩ v (KB.out _ Z2.out).2.2.2).mono ?_
          rintro e v3 ⟨rfl, z3⟩
          have Z3 := Lib.hid (Mod.trans Z2.out z3)
          clear z3
          rw [show wrsB ⟨y.ag, y.kind, S2, y.nt, y.blk, y.at_, y.size, y.rd, y.wr, y.fr⟩ = WY from HWY.out]
          (try clear d0 d1 d2 d3 d4 d5 d6 d7 d8 d9 f0 f1 f2 f3 f4 f5 f6 f7 f8 f9)
          obtain ⟨⟨d0, d1, d2, d3, d4, d5, d6, d7, d8, d9⟩, ⟨f0, f1, f2, f3, f4, f5, f6, f7, f8, f9⟩, -⟩ := KB.out _ Z3.out
          (try clear e1 e2 e3 e4)
          obtain ⟨e1, e2, e3, e4⟩ := KR.out _ Z3.out
          cases WY with
          | false =>
            go_wp2_with fail
            go_ret
            exact ⟨ret_bool (by rw [HB.out]; rfl), (HW.out.2.2.trans hc).trans Z3.out⟩
          | true =>
            cases H1 with
            | true =>
              go_wp2_with fail
              go_ret
              exact ⟨ret_bool (by rw [HB.out]; rfl), (HW.out.2.2.trans hc).trans Z3.out⟩
            | false =>
              cases H2 with
              | true =>
                go_wp2_with fail
                go_ret
                exact ⟨ret_bool (by rw [HB.out]; rfl), (HW.out.2.2.trans hc).trans Z3.out⟩
              | false =>
                cases S1 with
                | false =>
                  go_wp2_with fail
                  go_ret
                  exact ⟨ret_bool (by rw [HB.out]; rfl), (HW.out.2.2.trans hc).trans Z3.out⟩
                | true =>
                  cases S2 with
                  | false =>
                    go_wp2_with fail
                    go_ret
                    exact ⟨ret_bool (by rw [HB.out]; rfl), (HW.out.2.2.trans hc).trans Z3.out⟩
                  | true =>
                    go_wp2_with fail
                    refine (requal_any _ ⟨x.ag, x.kind, true, x.nt, x.blk, x.at_, x.size, x.rd, x.wr, x.fr⟩ ⟨y.ag, y.kind, true, y.nt, y.blk, y.at_, y.size, y.rd, y.wr, y.fr⟩ u v (KB.out _ Z3.out).2.2.1 (KB.out _ Z3.out).2.2.2).mono ?_
                    rintro e v6 ⟨rfl, z6⟩
                    have Z6 := Lib.hid (Mod.trans Z3.out z6)
                    clear z6
                    rw [show evEq ⟨x.ag, x.kind, true, x.nt, x.blk, x.at_, x.size, x.rd, x.wr, x.fr⟩ ⟨y.ag, y.kind, true, y.nt, y.blk, y.at_, y.size, y.rd, y.wr, y.fr⟩ = Q from HQ.out]
                    (try clear d0 d1 d2 d3 d4 d5 d6 d7 d8 d9 f0 f1 f2 f3 f4 f5 f6 f7 f8 f9)
                    obtain ⟨⟨d0, d1, d2, d3, d4, d5, d6, d7, d8, d9⟩, ⟨f0, f1, f2, f3, f4, f5, f6, f7, f8, f9⟩, -⟩ := KB.out _ Z6.out
                    (try clear e1 e2 e3 e4)
                    obtain ⟨e1, e2, e3, e4⟩ := KR.out _ Z6.out
                    cases Q with
                    | false =>
                      go_wp2_with fail
                      go_ret
                      exact ⟨ret_bool (by rw [HB.out]; rfl), (HW.out.2.2.trans hc).trans Z6.out⟩
                    | true =>
                      go_wp2_with fail
                      go_ret
                      exact ⟨ret_bool (by rw [HB.out]; rfl), (HW.out.2.2.trans hc).trans Z6.out⟩
  case inr.inr.inr.inr.inl =>
    have hne : (a == b) = true := by simp [z4]
    have HF : Hid (B = false) := Lib.hid (by rw [hB]; unfold rcfB rngB; rw [show decide (0 ≤ a ∧ a < (L.ev.length : Int) ∧ 0 ≤ b ∧ b < (L.ev.length : Int) ∧ a ≠ b) = false by rw [decide_eq_false_iff_not]; omega]; rfl)
    obtain ⟨c0, c1⟩ := b0.cells
    clear hw0 hg0 x0 b0 hB z4
    go_enter Try.func59, Try.ntmps59
    go_upto_region 1 with fail
    rw [← HW.out.1, ← HW.out.2.1]
    go_wp2_with fail
    go_ret
    exact ⟨ret_bool (by rw [HF.out]), HW.out.2.2⟩
  all_goals
    have HF : Hid (B = false) := Lib.hid (by rw [hB]; unfold rcfB rngB; rw [show decide (0 ≤ a ∧ a < (L.ev.length : Int) ∧ 0 ≤ b ∧ b < (L.ev.length : Int) ∧ a ≠ b) = false by rw [decide_eq_false_iff_not]; omega]; rfl)
    obtain ⟨c0, c1⟩ := b0.cells
    clear hw0 hg0 x0 b0 hB
    go_enter Try.func59, Try.ntmps59
    go_upto_region 1 with fail
    rw [← HW.out.1, ← HW.out.2.1]
    go_wp2_with fail
    go_ret
    exact ⟨ret_bool (by rw [HF.out]), HW.out.2.2⟩
set_option maxRecDepth 100000 in
set_option maxHeartbeats 1600000 in
theorem rdata_any (w : World) (ve vp : Value) (V : Nat → Vs) (L : Lg) (h : LogIn w ve vp V L) (rv : Value) (R : Nat → Value) (hr : RRel w rv R L.ev.length (hbB L)) (a b : Int) :
    Calls Try.prog 62 #[.agg #[ve, vp], rv, .int .i64 a, .int .i64 b] w (FPost (rcfB L a b && rcB L a b) w) := by
  obtain ⟨B, hB⟩ : ∃ B, B = (rcfB L a b && rcB L a b) := ⟨_, rfl⟩
  rw [← hB]
  obtain ⟨C, hC⟩ : ∃ B, B = rcfB L a b := ⟨_, rfl⟩
  rw [← hC] at hB
  have q1 := Sl.cells_eq h.row
  have q2 := Sl.cells_eq h.prow
  have s1 := Sl.run_st (P := Try.prog) h.row
  have s2 := Sl.run_st (P := Try.prog) h.prow
  obtain ⟨w0, hw0⟩ : ∃ w0, w0 = w.alloc (.cells #[ve, vp] 30) := ⟨_, rfl⟩
  obtain ⟨g0, hg0⟩ : ∃ g, g = w.heap.size := ⟨_, rfl⟩
  have x0 : Ext w w0 := by rw [hw0]; exact (Mod.refl _ _).alloc _
  have b0 : RLogBox w0 g0 ve vp := ⟨by rw [hw0, hg0]; exact heap_alloc_new _ _⟩
  have HW := Lib.hid (And.intro hw0 (And.intro hg0 x0))
  have KE : Hid (∀ w', Ext w0 w' → LogIn w' ve vp V L ∧ RLogBox w' g0 ve vp) := Lib.hid fun w' x => ⟨h.ext (x0.trans x), b0.ext x⟩
  have KF : Hid (∀ w', Ext w0 w' → w'.cell? ⟨g0, 0, none⟩ = some ve ∧ w'.cell? ⟨g0, 1, none⟩ = some vp) := Lib.hid fun w' x => (b0.ext x).cells
  have l1 := h.row.run_len (P := Try.prog) IRe.und 3
  have HI := Lib.hid (h.row.run_idx (P := Try.prog) IRe.und IRe.size .i64)
  have HRR := Lib.hid (hr.ext x0)
  obtain ⟨c0, c1⟩ := b0.cells
  clear h hr hw0 hg0 x0 b0
  have HB0 := Lib.hid hB
  have HC0 := Lib.hid hC.symm
  clear hB hC
  go_enter Try.func62, Try.ntmps62
  go_upto_region 1 with fail
  rw [← HW.out.1, ← HW.out.2.1]
  clear s1 s2
  go_wp2_with fail
  refine (rconflict_any _ ve vp V L (KE.out _ (Mod.refl _ _)).1 _ _ HRR.out a b).mono ?_
  rintro e wk ⟨rfl, y1⟩
  have X1 := Lib.hid y1
  rw [HC0.out]
  clear c0 c1
  cases C with
  | false =>
    go_wp2_with fail
    go_ret
    exact ⟨ret_bool (by rw [HB0.out]; rfl), HW.out.2.2.trans X1.out⟩
  | true =>
    have hc := HC0.out
    unfold rcfB rngB at hc
    rw [Bool.and_eq_true, decide_eq_true_eq] at hc
    obtain ⟨⟨z, z1, z2, z3, z4⟩, -⟩ := hc
    obtain ⟨a, rfl⟩ := Int.eq_ofNat_of_zero_le z
    obtain ⟨b, rfl⟩ := Int.eq_ofNat_of_zero_le z2
    have ha : a < L.ev.length := by omega
    have hb : b < L.ev.length := by omega
    have i0 := HI.out a ha
    have i1 := HI.out b hb
    obtain ⟨x, hx⟩ : ∃ e, e = evn L.ev a := ⟨_, rfl⟩
    obtain ⟨u, hu⟩ : ∃ v, v = V a := ⟨_, rfl⟩
    obtain ⟨y, hy⟩ : ∃ e, e = evn L.ev b := ⟨_, rfl⟩
    obtain ⟨v, hv⟩ : ∃ v, v = V b := ⟨_, rfl⟩
    obtain ⟨A1, hA1⟩ : ∃ A, A = at_ ve (a * 10) := ⟨_, rfl⟩
    obtain ⟨A2, hA2⟩ : ∃ A, A = at_ ve (b * 10) := ⟨_, rfl⟩
    rw [← hA1] at i0
    rw [← hA2] at i1
    have KXY : Hid (EvAt wk x u ∧ EvAt wk y v) := Lib.hid ⟨by rw [hx, hu]; exact ((KE.out _ X1.out).1).ev a ha, by rw [hy, hv]; exact ((KE.out _ X1.out).1).ev b hb⟩
    have KF2 : Hid (∀ w', Ext w0 w' → w'.cell? ⟨g0, 0, none⟩ = some ve ∧ w'.cell? A1 = some (.int .i64 (x).ag) ∧ w'.cell? ⟨A1.block, A1.off + 1, none⟩ = some (.int .i64 (x).kind) ∧ w'.cell? ⟨A1.block, A1.off + 2, none⟩ = some (.bool (x).seq) ∧ w'.cell? ⟨A1.block, A1.off + 3, none⟩ = some (.bool (x).nt) ∧ w'.cell? ⟨A1.block, A1.off + 4, none⟩ = some (.int .i64 (x).blk) ∧ w'.cell? ⟨A1.block, A1.off + 5, none⟩ = some (.int .i64 (x).at_) ∧ w'.cell? ⟨A1.block, A1.off + 6, none⟩ = some (.int .i64 (x).size) ∧ w'.cell? ⟨A1.block, A1.off + 7, none⟩ = some u.r ∧ w'.cell? ⟨A1.block, A1.off + 8, none⟩ = some u.w ∧ w'.cell? ⟨A1.block, A1.off + 9, none⟩ = some u.f ∧ w'.cell? A2 = some (.int .i64 (y).ag) ∧ w'.cell? ⟨A2.block, A2.off + 1, none⟩ = some (.int .i64 (y).kind) ∧ w'.cell? ⟨A2.block, A2.off + 2, none⟩ = some (.bool (y).seq) ∧ w'.cell? ⟨A2.block, A2.off + 3, none⟩ = some (.bool (y).nt) ∧ w'.cell? ⟨A2.block, A2.off + 4, none⟩ = some (.int .i64 (y).blk) ∧ w'.cell? ⟨A2.block, A2.off + 5, none⟩ = some (.int .i64 (y).at_) ∧ w'.cell? ⟨A2.block, A2.off + 6, none⟩ = some (.int .i64 (y).size) ∧ w'.cell? ⟨A2.block, A2.off + 7, none⟩ = some v.r ∧ w'.cell? ⟨A2.block, A2.off + 8, none⟩ = some v.w ∧ w'.cell? ⟨A2.block, A2.off + 9, none⟩ = some v.f) := Lib.hid fun w' z => by
      have h2 := ((KE.out _ z).1).cells ha
      have h3 := ((KE.out _ z).1).cells hb
      rw [← hx, ← hu, ← hA1] at h2
      rw [← hy, ← hv, ← hA2] at h3
      obtain ⟨a0, a1, a2, a3, a4, a5, a6, a7, a8, a9⟩ := h2
      exact ⟨(KE.out _ z).2.cells.1, a0, a1, a2, a3, a4, a5, a6, a7, a8, a9, h3⟩
    obtain ⟨WX, hWX⟩ : ∃ O, O = wrsB x := ⟨_, rfl⟩
    obtain ⟨WY, hWY⟩ : ∃ O, O = wrsB y := ⟨_, rfl⟩
    obtain ⟨C1, hC1⟩ : ∃ O, O = x.fr.contains (b : Int) := ⟨_, rfl⟩
    obtain ⟨C2, hC2⟩ : ∃ O, O = y.fr.contains (a : Int) := ⟨_, rfl⟩
    have HB : Hid (B = ((WX && WY) || C1 || C2)) := Lib.hid (by rw [HB0.out, hWX, hWY, hC1, hC2, hx, hy, Bool.true_and]; unfold rcB; rw [Int.toNat_natCast, Int.toNat_natCast])
    have HWX := Lib.hid hWX.symm
    have HWY := Lib.hid hWY.symm
    have HC1 := Lib.hid hC1.symm
    have HC2 := Lib.hid hC2.symm
    have k1 := (ev_facts KXY.out.1).1
    have k2 := (ev_facts KXY.out.1).2.1
    have k3 := (ev_facts KXY.out.1).2.2.1
    have k4 := (ev_facts KXY.out.2).1
    have k5 := (ev_facts KXY.out.2).2.1
    have k6 := (ev_facts KXY.out.2).2.2.1
    clear hx hu hy hv hA1 hA2 hWX hWY hC1 hC2 ha hb z z1 z2 z3 z4 y1
    go_upto_region 3 with fail
    go_cut [9, 10] (fun s9 s10 wq => RTwoEv wk x y u v s9 s10 wq)
    case first =>
      have ED : Ext wk (World.drew wk) := Mod.drew (Mod.refl _ _)
      refine wp_region_planT [] (.take 0 0 (.take 1 0 (.take 2 0 (.take 3 0 (.take 4 0 (.take 5 0 (.take 6 0 (.take 7 0 (.take 8 0 (.take 9 0 (.fork (.alt 10 (.fork (.alt 11 (.fork (.alt 12 (.fork (.alt 13 .nil .noalt)) .noalt)) .noalt)) (.alt 11 (.fork (.alt 10 (.fork (.alt 12 (.fork (.alt 13 .nil .noalt)) .noalt)) .noalt)) .noalt))))))))))))) (fun w' => w'.cell? ⟨g0, 0, none⟩ = some ve ∧ w'.cell? A1 = some (.int .i64 (x).ag) ∧ w'.cell? ⟨A1.block, A1.off + 1, none⟩ = some (.int .i64 (x).kind) ∧ w'.cell? ⟨A1.block, A1.off + 2, none⟩ = some (.bool (x).seq) ∧ w'.cell? ⟨A1.block, A1.off + 3, none⟩ = some (.bool (x).nt) ∧ w'.cell? ⟨A1.block, A1.off + 4, none⟩ = some (.int .i64 (x).blk) ∧ w'.cell? ⟨A1.block, A1.off + 5, none⟩ = some (.int .i64 (x).at_) ∧ w'.cell? ⟨A1.block, A1.off + 6, none⟩ = some (.int .i64 (x).size) ∧ w'.cell? ⟨A1.block, A1.off + 7, none⟩ = some u.r ∧ w'.cell? ⟨A1.block, A1.off + 8, none⟩ = some u.w ∧ w'.cell? ⟨A1.block, A1.off + 9, none⟩ = some u.f ∧ w'.cell? A2 = some (.int .i64 (y).ag) ∧ w'.cell? ⟨A2.block, A2.off + 1, none⟩ = some (.int .i64 (y).kind) ∧ w'.cell? ⟨A2.block, A2.off + 2, none⟩ = some (.bool (y).seq) ∧ w'.cell? ⟨A2.block, A2.off + 3, none⟩ = some (.bool (y).nt) ∧ w'.cell? ⟨A2.block, A2.off + 4, none⟩ = some (.int .i64 (y).blk) ∧ w'.cell? ⟨A2.block, A2.off + 5, none⟩ = some (.int .i64 (y).at_) ∧ w'.cell? ⟨A2.block, A2.off + 6, none⟩ = some (.int .i64 (y).size) ∧ w'.cell? ⟨A2.block, A2.off + 7, none⟩ = some v.r ∧ w'.cell? ⟨A2.block, A2.off + 8, none⟩ = some v.w ∧ w'.cell? ⟨A2.block, A2.off + 9, none⟩ = some v.f) (by kernel_rfl) (by kernel_rfl) (by kernel_rfl) (fun _ d _ _ _ h => by cases d <;> exact h) (KF2.out _ (X1.out.trans ED)) ?_
      simp (decide := true) only [planT, getO]
      (refine planT_take (v := ?_) (by rfl) (fun wS hS => ?_) ?_; rotate_left; (focus ((try dsimp only at hS); go_simp; (try with_reducible rfl); done)); (try simp only [Act.put, List.setIfInBounds_toArray, List.set_cons_zero, List.set_cons_succ]))
      (refine planT_take (v := ?_) (by rfl) (fun wS hS => ?_) ?_; rotate_left; (focus ((try dsimp only at hS); go_simp; (try with_reducible rfl); done)); (try simp only [Act.put, List.setIfInBounds_toArray, List.set_cons_zero, List.set_cons_succ]))
      (refine planT_take (v := ?_) (by rfl) (fun wS hS => ?_) ?_; rotate_left; (focus ((try dsimp only at hS); go_simp; (try with_reducible rfl); done)); (try simp only [Act.put, List.setIfInBounds_toArray, List.set_cons_zero, List.set_cons_succ]))
      (refine planT_take (v := ?_) (by rfl) (fun wS hS => ?_) ?_; rotate_left; (focus ((try dsimp only at hS); go_simp; (try with_reducible rfl); done)); (try simp only [Act.put, List.setIfInBounds_toArray, List.set_cons_zero, List.set_cons_succ]))
      (refine planT_take (v := ?_) (by rfl) (fun wS hS => ?_) ?_; rotate_left; (focus ((try dsimp only at hS); go_simp; (try with_reducible rfl); done)); (try simp only [Act.put, List.setIfInBounds_toArray, List.set_cons_zero, List.set_cons_succ]))
      (refine planT_take (v := ?_) (by rfl) (fun wS hS => ?_) ?_; rotate_left; (focus ((try dsimp only at hS); go_simp; (try with_reducible rfl); done)); (try simp only [Act.put, List.setIfInBounds_toArray, List.set_cons_zero, List.set_cons_succ]))
      (refine planT_take (v := ?_) (by rfl) (fun wS hS => ?_) ?_; rotate_left; (focus ((try dsimp only at hS); go_simp; (try with_reducible rfl); done)); (try simp only [Act.put, List.setIfInBounds_toArray, List.set_cons_zero, List.set_cons_succ]))
      (refine planT_take (v := ?_) (by rfl) (fun wS hS => ?_) ?_; rotate_left; (focus ((try dsimp only at hS); go_simp; (try with_reducible rfl); done)); (try simp only [Act.put, List.setIfInBounds_toArray, List.set_cons_zero, List.set_cons_succ]))
      (refine planT_take (v := ?_) (by rfl) (fun wS hS => ?_) ?_; rotate_left; (focus ((try dsimp only at hS); go_simp; (try with_reducible rfl); done)); (try simp only [Act.put, List.setIfInBounds_toArray, List.set_cons_zero, List.set_cons_succ]))
      (refine planT_take (v := ?_) (by rfl) (fun wS hS => ?_) ?_; rotate_left; (focus ((try dsimp only at hS); go_simp; (try with_reducible rfl); done)); (try simp only [Act.put, List.setIfInBounds_toArray, List.set_cons_zero, List.set_cons_succ]))
      refine planT_fork ?_
      refine planT_alloc rfl rfl (fun w => Try.zeroValue67 w) rfl (fun g1 w1 y1 hg1 hs1 hb1 => ?_) ?_
      · have E1 : Ext wk w1 := Mod.trans ED y1
        have HG1 := Lib.hid (And.intro hg1 (And.intro hs1 (And.intro hb1 (And.intro E1 (And.intro y1 ED)))))
        clear hg1 hs1 hb1
        refine ⟨fun _ => KF2.out _ (X1.out.trans E1), ?_⟩
        (try simp only [Act.put, List.setIfInBounds_toArray, List.set_cons_zero, List.set_cons_succ])
        refine planT_fork ?_
        refine planT_alloc rfl rfl (fun w => Try.zeroValue67 w) rfl (fun g2 w2 y2 hg2 hs2 hb2 => ?_) planT_end
        have E2 : Ext wk w2 := Mod.trans E1 y2
        have HG2 := Lib.hid (And.intro hg2 (And.intro hs2 (And.intro hb2 (And.intro E2 (And.intro y2 E1)))))
        clear hg2 hs2 hb2
        refine ⟨fun _ => KF2.out _ (X1.out.trans E2), ?_⟩
        (try simp only [Act.put, List.setIfInBounds_toArray, List.set_cons_zero, List.set_cons_succ])
        refine planT_fork ?_
        refine planT_store rfl rfl rfl rfl ((Ext.blk y2 HG1.out.2.2.1)) (by kernel_rfl) rfl (evArr_all (Sl.one (KXY.out.1).rd) (Sl.one (KXY.out.1).wr) (Sl.one (KXY.out.1).fr.sl)) (fun w3 m3 hs3 hb3 => ?_) planT_end
        have E3 : Ext wk w3 := Mod.trans' E2 m3 (fun q hq => .inr (by obtain ⟨z1a, z1b, -, z1e, z1y, z1p⟩ := HG1.out; have z1f := z1e.size; have z1g := z1y.size; have z1q := z1p.size; obtain ⟨z2a, z2b, -, z2e, z2y, z2p⟩ := HG2.out; have z2f := z2e.size; have z2g := z2y.size; have z2q := z2p.size; have sy1 := y1.size; have sy2 := y2.size; subst hq; omega))
        have HG3 := Lib.hid (And.intro hs3 (And.intro hb3 m3))
        clear hs3 hb3
        refine ⟨fun _ => KF2.out _ (X1.out.trans E3), ?_⟩
        (try simp only [Act.put])
        refine planT_fork ?_
        refine planT_store rfl rfl rfl rfl ((Mod.blk m3 HG2.out.2.2.1 (by obtain ⟨z1a, z1b, -, z1e, z1y, z1p⟩ := HG1.out; have z1f := z1e.size; have z1g := z1y.size; have z1q := z1p.size; obtain ⟨z2a, z2b, -, z2e, z2y, z2p⟩ := HG2.out; have z2f := z2e.size; have z2g := z2y.size; have z2q := z2p.size; have sy1 := y1.size; have sy2 := y2.size; omega))) (by kernel_rfl) rfl (evArr_all (Sl.one (KXY.out.2).rd) (Sl.one (KXY.out.2).wr) (Sl.one (KXY.out.2).fr.sl)) (fun w4 m4 hs4 hb4 => ?_) planT_end
        have E4 : Ext wk w4 := Mod.trans' E3 m4 (fun q hq => .inr (by obtain ⟨z1a, z1b, -, z1e, z1y, z1p⟩ := HG1.out; have z1f := z1e.size; have z1g := z1y.size; have z1q := z1p.size; obtain ⟨z2a, z2b, -, z2e, z2y, z2p⟩ := HG2.out; have z2f := z2e.size; have z2g := z2y.size; have z2q := z2p.size; have sy1 := y1.size; have sy2 := y2.size; subst hq; omega))
        have HG4 := Lib.hid (And.intro hs4 (And.intro hb4 m4))
        clear hs4 hb4
        refine ⟨fun _ => KF2.out _ (X1.out.trans E4), ?_⟩
        (try simp only [Act.put])
        refine planT_nil ?_
        go_wp2_with fail
        go_meet
        exact ⟨g1, g2, rfl, rfl, ⟨(Mod.blk m4 HG3.out.2.1 (by obtain ⟨z1a, z1b, -, z1e, z1y, z1p⟩ := HG1.out; have z1f := z1e.size; have z1g := z1y.size; have z1q := z1p.size; obtain ⟨z2a, z2b, -, z2e, z2y, z2p⟩ := HG2.out; have z2f := z2e.size; have z2g := z2y.size; have z2q := z2p.size; have sy1 := y1.size; have sy2 := y2.size; omega))⟩, ⟨HG4.out.2.1⟩, E4⟩
      refine planT_alloc rfl rfl (fun w => Try.zeroValue67 w) rfl (fun g5 w5 y5 hg5 hs5 hb5 => ?_) planT_end
      have E5 : Ext wk w5 := Mod.trans ED y5
      have HG5 := Lib.hid (And.intro hg5 (And.intro hs5 (And.intro hb5 (And.intro E5 (And.intro y5 ED)))))
      clear hg5 hs5 hb5
      refine ⟨fun _ => KF2.out _ (X1.out.trans E5), ?_⟩
      (try simp only [Act.put, List.setIfInBounds_toArray, List.set_cons_zero, List.set_cons_succ])
      refine planT_fork ?_
      refine planT_alloc rfl rfl (fun w => Try.zeroValue67 w) rfl (fun g6 w6 y6 hg6 hs6 hb6 => ?_) planT_end
      have E6 : Ext wk w6 := Mod.trans E5 y6
      have HG6 := Lib.hid (And.intro hg6 (And.intro hs6 (And.intro hb6 (And.intro E6 (And.intro y6 E5)))))
      clear hg6 hs6 hb6
      refine ⟨fun _ => KF2.out _ (X1.out.trans E6), ?_⟩
      (try simp only [Act.put, List.setIfInBounds_toArray, List.set_cons_zero, List.set_cons_succ])
      refine planT_fork ?_
      refine planT_store rfl rfl rfl rfl (HG6.out.2.2.1) (by kernel_rfl) rfl (evArr_all (Sl.one (KXY.out.1).rd) (Sl.one (KXY.out.1).wr) (Sl.one (KXY.out.1).fr.sl)) (fun w7 m7 hs7 hb7 => ?_) planT_end
      have E7 : Ext wk w7 := Mod.trans' E6 m7 (fun q hq => .inr (by obtain ⟨z5a, z5b, -, z5e, z5y, z5p⟩ := HG5.out; have z5f := z5e.size; have z5g := z5y.size; have z5q := z5p.size; obtain ⟨z6a, z6b, -, z6e, z6y, z6p⟩ := HG6.out; have z6f := z6e.size; have z6g := z6y.size; have z6q := z6p.size; have sy5 := y5.size; have sy6 := y6.size; subst hq; omega))
      have HG7 := Lib.hid (And.intro hs7 (And.intro hb7 m7))
      clear hs7 hb7
      refine ⟨fun _ => KF2.out _ (X1.out.trans E7), ?_⟩
      (try simp only [Act.put])
      refine planT_fork ?_
      refine planT_store rfl rfl rfl rfl ((Mod.blk m7 (Ext.blk y6 HG5.out.2.2.1) (by obtain ⟨z5a, z5b, -, z5e, z5y, z5p⟩ := HG5.out; have z5f := z5e.size; have z5g := z5y.size; have z5q := z5p.size; obtain ⟨z6a, z6b, -, z6e, z6y, z6p⟩ := HG6.out; have z6f := z6e.size; have z6g := z6y.size; have z6q := z6p.size; have sy5 := y5.size; have sy6 := y6.size; omega))) (by kernel_rfl) rfl (evArr_all (Sl.one (KXY.out.2).rd) (Sl.one (KXY.out.2).wr) (Sl.one (KXY.out.2).fr.sl)) (fun w8 m8 hs8 hb8 => ?_) planT_end
      have E8 : Ext wk w8 := Mod.trans' E7 m8 (fun q hq => .inr (by obtain ⟨z5a, z5b, -, z5e, z5y, z5p⟩ := HG5.out; have z5f := z5e.size; have z5g := z5y.size; have z5q := z5p.size; obtain ⟨z6a, z6b, -, z6e, z6y, z6p⟩ := HG6.out; have z6f := z6e.size; have z6g := z6y.size; have z6q := z6p.size; have sy5 := y5.size; have sy6 := y6.size; subst hq; omega))
      have HG8 := Lib.hid (And.intro hs8 (And.intro hb8 m8))
      clear hs8 hb8
      refine ⟨fun _ => KF2.out _ (X1.out.trans E8), ?_⟩
      (try simp only [Act.put])
      refine planT_nil ?_
      go_wp2_with fail
      go_meet
      exact ⟨g6, g5, rfl, rfl, ⟨(Mod.blk m8 HG7.out.2.1 (by obtain ⟨z5a, z5b, -, z5e, z5y, z5p⟩ := HG5.out; have z5f := z5e.size; have z5g := z5y.size; have z5q := z5p.size; obtain ⟨z6a, z6b, -, z6e, z6y, z6p⟩ := HG6.out; have z6f := z6e.size; have z6g := z6y.size; have z6q := z6p.size; have sy5 := y5.size; have sy6 := y6.size; omega))⟩, ⟨HG8.out.2.1⟩, E8⟩
    case rest =>
      obtain ⟨b1, b2, rfl, rfl, hc, KB⟩ := hcut.keep KXY.out.1 KXY.out.2
      clear hcut i0 i1
      obtain ⟨⟨d0, d1, d2, d3, d4, d5, d6, d7, d8, d9⟩, ⟨f0, f1, f2, f3, f4, f5, f6, f7, f8, f9⟩, -⟩ := KB.out _ (Mod.refl _ _)
      go_wp2_with fail
      refine (rwrites_any _ ⟨x.ag, x.kind, x.seq, x.nt, x.blk, x.at_, x.size, x.rd, x.wr, x.fr⟩ u (KB.out _ (Mod.refl _ _)).2.2.1).mono ?_
      rintro e v1 ⟨rfl, z1⟩
      have Z1 := Lib.hid (Mod.trans (Mod.refl _ _) z1)
      clear z1
      rw [show wrsB ⟨x.ag, x.kind, x.seq, x.nt, x.blk, x.at_, x.size, x.rd, x.wr, x.fr⟩ = WX from HWX.out]
      (try clear d0 d1 d2 d3 d4 d5 d6 d7 d8 d9 f0 f1 f2 f3 f4 f5 f6 f7 f8 f9)
      obtain ⟨⟨d0, d1, d2, d3, d4, d5, d6, d7, d8, d9⟩, ⟨f0, f1, f2, f3, f4, f5, f6, f7, f8, f9⟩, -⟩ := KB.out _ Z1.out
      cases WX with
      | false =>
        go_wp2_with fail
        refine (rhas_any _ u.f x.fr (KB.out _ Z1.out).2.2.1.fr b).mono ?_
        rintro e v4 ⟨rfl, z4⟩
        have Z4 := Lib.hid (Mod.trans Z1.out z4)
        clear z4
        rw [HC1.out]
        (try clear d0 d1 d2 d3 d4 d5 d6 d7 d8 d9 f0 f1 f2 f3 f4 f5 f6 f7 f8 f9)
        obtain ⟨⟨d0, d1, d2, d3, d4, d5, d6, d7, d8, d9⟩, ⟨f0, f1, f2, f3, f4, f5, f6, f7, f8, f9⟩, -⟩ := KB.out _ Z4.out
        cases C1 with
        | true =>
          go_wp2_with fail
          go_ret
          exact ⟨ret_bool (by rw [HB.out]; rfl), HW.out.2.2.trans (X1.out.trans (hc.trans Z4.out))⟩
        | false =>
          go_wp2_with fail
          refine (rhas_any _ v.f y.fr (KB.out _ Z4.out).2.2.2.fr a).mono ?_
          rintro e v5 ⟨rfl, z5⟩
          have Z5 := Lib.hid (Mod.trans Z4.out z5)
          clear z5
          rw [HC2.out]
          (try clear d0 d1 d2 d3 d4 d5 d6 d7 d8 d9 f0 f1 f2 f3 f4 f5 f6 f7 f8 f9)
          obtain ⟨⟨d0, d1, d2, d3, d4, d5, d6, d7, d8, d9⟩, ⟨f0, f1, f2, f3, f4, f5, f6, f7, f8, f9⟩, -⟩ := KB.out _ Z5.out
          cases C2 with
          | true =>
            go_wp2_with fail
            go_ret
            exact ⟨ret_bool (by rw [HB.out]; rfl), HW.out.2.2.trans (X1.out.trans (hc.trans Z5.out))⟩
          | false =>
            go_wp2_with fail
            go_ret
            exact ⟨ret_bool (by rw [HB.out]; rfl), HW.out.2.2.trans (X1.out.trans (hc.trans Z5.out))⟩
      | true =>
        go_wp2_with fail
        refine (rwrites_any _ ⟨y.ag, y.kind, y.seq, y.nt, y.blk, y.at_, y.size, y.rd, y.wr, y.fr⟩ v (KB.out _ Z1.out).2.2.2).mono ?_
        rintro e v3 ⟨rfl, z3⟩
        have Z3 := Lib.hid (Mod.trans Z1.out z3)
        clear z3
        rw [show wrsB ⟨y.ag, y.kind, y.seq, y.nt, y.blk, y.at_, y.size, y.rd, y.wr, y.fr⟩ = WY from HWY.out]
        (try clear d0 d1 d2 d3 d4 d5 d6 d7 d8 d9 f0 f1 f2 f3 f4 f5 f6 f7 f8 f9)
        obtain ⟨⟨d0, d1, d2, d3, d4, d5, d6, d7, d8, d9⟩, ⟨f0, f1, f2, f3, f4, f5, f6, f7, f8, f9⟩, -⟩ := KB.out _ Z3.out
        cases WY with
        | true =>
          go_wp2_with fail
          go_ret
          exact ⟨ret_bool (by rw [HB.out]; rfl), HW.out.2.2.trans (X1.out.trans (hc.trans Z3.out))⟩
        | false =>
          go_wp2_with fail
          refine (rhas_any _ u.f x.fr (KB.out _ Z3.out).2.2.1.fr b).mono ?_
          rintro e v4 ⟨rfl, z4⟩
          have Z4 := Lib.hid (Mod.trans Z3.out z4)
          clear z4
          rw [HC1.out]
          (try clear d0 d1 d2 d3 d4 d5 d6 d7 d8 d9 f0 f1 f2 f3 f4 f5 f6 f7 f8 f9)
          obtain ⟨⟨d0, d1, d2, d3, d4, d5, d6, d7, d8, d9⟩, ⟨f0, f1, f2, f3, f4, f5, f6, f7, f8, f9⟩, -⟩ := KB.out _ Z4.out
          cases C1 with
          | true =>
            go_wp2_with fail
            go_ret
            exact ⟨ret_bool (by rw [HB.out]; rfl), HW.out.2.2.trans (X1.out.trans (hc.trans Z4.out))⟩
          | false =>
            go_wp2_with fail
            refine (rhas_any _ v.f y.fr (KB.out _ Z4.out).2.2.2.fr a).mono ?_
            rintro e v5 ⟨rfl, z5⟩
            have Z5 := Lib.hid (Mod.trans Z4.out z5)
            clear z5
            rw [HC2.out]
            (try clear d0 d1 d2 d3 d4 d5 d6 d7 d8 d9 f0 f1 f2 f3 f4 f5 f6 f7 f8 f9)
            obtain ⟨⟨d0, d1, d2, d3, d4, d5, d6, d7, d8, d9⟩, ⟨f0, f1, f2, f3, f4, f5, f6, f7, f8, f9⟩, -⟩ := KB.out _ Z5.out
            cases C2 with
            | true =>
              go_wp2_with fail
              go_ret
              exact ⟨ret_bool (by rw [HB.out]; rfl), HW.out.2.2.trans (X1.out.trans (hc.trans Z5.out))⟩
            | false =>
              go_wp2_with fail
              go_ret
              exact ⟨ret_bool (by rw [HB.out]; rfl), HW.out.2.2.trans (X1.out.trans (hc.trans Z5.out))⟩
set_option maxRecDepth 100000 in
set_option maxHeartbeats 800000 in
theorem rConflict_any (w : World) (ve vp : Value) (V : Nat → Vs) (L : Lg) (h : LogIn w ve vp V L) (hsm : SmL L) (hl : L.ev.length ≤ 64) (a b : Int) :
    Calls Try.prog 17 #[.agg #[ve, vp], .int .i64 a, .int .i64 b] w (FPost (cfB L a b) w) := by
  rw [cfB_rcf]
  obtain ⟨M, hM⟩ : ∃ B, B = mayL L := ⟨_, rfl⟩
  rw [← hM]
  have HSM := Lib.hid hsm
  have HL := Lib.hid hl
  clear hsm hl
  have q1 := Sl.cells_eq h.row
  have q2 := Sl.cells_eq h.prow
  have s1 := Sl.run_st (P := Try.prog) h.row
  have s2 := Sl.run_st (P := Try.prog) h.prow
  obtain ⟨w0, hw0⟩ : ∃ w0, w0 = w.alloc (.cells #[ve, vp] 30) := ⟨_, rfl⟩
  obtain ⟨g0, hg0⟩ : ∃ g, g = w.heap.size := ⟨_, rfl⟩
  have x0 : Ext w w0 := by rw [hw0]; exact (Mod.refl _ _).alloc _
  have b0 : RLogBox w0 g0 ve vp := ⟨by rw [hw0, hg0]; exact heap_alloc_new _ _⟩
  have HW := Lib.hid (And.intro hw0 (And.intro hg0 x0))
  have KE : Hid (∀ w', Ext w0 w' → LogIn w' ve vp V L ∧ RLogBox w' g0 ve vp) := Lib.hid fun w' x => ⟨h.ext (x0.trans x), b0.ext x⟩
  have KF : Hid (∀ w', Ext w0 w' → w'.cell? ⟨g0, 0, none⟩ = some ve ∧ w'.cell? ⟨g0, 1, none⟩ = some vp) := Lib.hid fun w' x => (b0.ext x).cells
  have l1 := h.row.run_len (P := Try.prog) IRe.und 3
  have HI := Lib.hid (h.row.run_idx (P := Try.prog) IRe.und IRe.size .i64)
  clear h hw0 hg0 x0 b0
  cases M with
  | false =>
    have HM := Lib.hid hM.symm
    clear hM
    go_enter Try.func17, Try.ntmps17
    go_upto_region 1 with fail
    rw [← HW.out.1, ← HW.out.2.1]
    clear s1 s2
    refine wp_region_plan [(0, true), (1, false), (2, true), (3, true), (4, true), (6, true), (7, true), (5, false), (8, false), (9, true), (10, true)] (fun w' => w'.cell? ⟨g0, 0, none⟩ = some ve ∧ w'.cell? ⟨g0, 1, none⟩ = some vp) (by kernel_rfl) (by kernel_rfl) (by kernel_rfl) (fun _ d _ _ _ h => by cases d <;> exact h) (KF.out _ (Mod.drew (Mod.refl _ _))) ?_
    simp only [planL, getO]
    (refine plan_take (v := ?_) (by rfl) (fun wS hS => ?_) ?_; rotate_left; (focus ((try dsimp only at hS); go_simp; (try with_reducible rfl); done)); (try simp only [Act.put, List.setIfInBounds_toArray, List.set_cons_zero, List.set_cons_succ]))
    refine plan_call (fun K hK => ?_)
    go_simp
    go_at_call 58; refine (rmay_any _ ve vp V L (KE.out _ (Mod.drew (Mod.refl _ _))).1 HSM.out).mono ?_; rintro e w1 ⟨rfl, y1⟩; have E1 : Ext w0 w1 := Mod.trans (Mod.drew (Mod.refl _ _)) y1; rw [HM.out]
    refine hK.out _ _ (KF.out _ E1) ?_
    clear hK K
    (try simp only [Act.put, List.setIfInBounds_toArray, List.set_cons_zero, List.set_cons_succ])
    (refine plan_take (v := ?_) (by rfl) (fun wS hS => ?_) ?_; rotate_left; (focus ((try dsimp only at hS); go_simp; (try with_reducible rfl); done)); (try simp only [Act.put, List.setIfInBounds_toArray, List.set_cons_zero, List.set_cons_succ]))
    iterate 4 (refine plan_skip (by rfl) ?_; (try simp only [Act.put, List.setIfInBounds_toArray, List.set_cons_zero, List.set_cons_succ]))
    (refine plan_skip (by rfl) ?_; (try simp only [Act.put, List.setIfInBounds_toArray, List.set_cons_zero, List.set_cons_succ]))
    (refine plan_skip (by rfl) ?_; (try simp only [Act.put, List.setIfInBounds_toArray, List.set_cons_zero, List.set_cons_succ]))
    iterate 2 (refine plan_take (v := ?_) (by rfl) (fun wS hS => ?_) ?_; rotate_left; (focus ((try dsimp only at hS); go_simp; (try with_reducible rfl); done)); (try simp only [Act.put, List.setIfInBounds_toArray, List.set_cons_zero, List.set_cons_succ]))
    refine plan_nil ?_
    go_wp2_with fail
    go_ret
    exact ⟨ret_bool rfl, HW.out.2.2.trans E1⟩
  | true =>
    have HM := Lib.hid hM.symm
    clear hM
    go_enter Try.func17, Try.ntmps17
    go_upto_region 1 with fail
    rw [← HW.out.1, ← HW.out.2.1]
    clear s1 s2
    refine wp_region_plan [(0, true), (1, false), (2, true), (3, true), (4, true), (6, true), (7, true), (5, false), (8, false), (9, true), (10, true)] (fun w' => w'.cell? ⟨g0, 0, none⟩ = some ve ∧ w'.cell? ⟨g0, 1, none⟩ = some vp) (by kernel_rfl) (by kernel_rfl) (by kernel_rfl) (fun _ d _ _ _ h => by cases d <;> exact h) (KF.out _ (Mod.drew (Mod.refl _ _))) ?_
    simp only [planL, getO]
    (refine plan_take (v := ?_) (by rfl) (fun wS hS => ?_) ?_; rotate_left; (focus ((try dsimp only at hS); go_simp; (try with_reducible rfl); done)); (try simp only [Act.put, List.setIfInBounds_toArray, List.set_cons_zero, List.set_cons_succ]))
    refine plan_call (fun K hK => ?_)
    go_simp
    go_at_call 58; refine (rmay_any _ ve vp V L (KE.out _ (Mod.drew (Mod.refl _ _))).1 HSM.out).mono ?_; rintro e w1 ⟨rfl, y1⟩; have E1 : Ext w0 w1 := Mod.trans (Mod.drew (Mod.refl _ _)) y1; rw [HM.out]
    refine hK.out _ _ (KF.out _ E1) ?_
    clear hK K
    (try simp only [Act.put, List.setIfInBounds_toArray, List.set_cons_zero, List.set_cons_succ])
    iterate 5 (refine plan_take (v := ?_) (by rfl) (fun wS hS => ?_) ?_; rotate_left; (focus ((try dsimp only at hS); go_simp; (try with_reducible rfl); done)); (try simp only [Act.put, List.setIfInBounds_toArray, List.set_cons_zero, List.set_cons_succ]))
    refine plan_call (fun K hK => ?_)
    go_simp
    go_at_call 60; refine (rrbefore_any _ ve vp V L (KE.out _ E1).1 HSM.out HL.out).mono ?_; rintro e w2 ⟨rv, R, rfl, hlp⟩; have E2 : Ext w0 w2 := Mod.trans E1 hlp.x; have hrr := hlp.is; rw [relN_yes HM.out] at hrr; have HRR := Lib.hid hrr; clear hlp hrr
    refine hK.out _ _ (KF.out _ E2) ?_
    clear hK K
    (try simp only [Act.put, List.setIfInBounds_toArray, List.set_cons_zero, List.set_cons_succ])
    refine plan_call (fun K hK => ?_)
    go_simp
    go_at_call 59; refine (rconflict_any _ ve vp V L (KE.out _ E2).1 _ _ HRR.out a b).mono ?_; rintro e w3 ⟨rfl, y3⟩; have E3 : Ext w0 w3 := Mod.trans E2 y3
    refine hK.out _ _ (KF.out _ E3) ?_
    clear hK K
    (try simp only [Act.put, List.setIfInBounds_toArray, List.set_cons_zero, List.set_cons_succ])
    iterate 2 (refine plan_take (v := ?_) (by rfl) (fun wS hS => ?_) ?_; rotate_left; (focus ((try dsimp only at hS); go_simp; (try with_reducible rfl); done)); (try simp only [Act.put, List.setIfInBounds_toArray, List.set_cons_zero, List.set_cons_succ]))
    refine plan_nil ?_
    go_wp2_with fail
    go_ret
    exact ⟨ret_bool rfl, HW.out.2.2.trans E3⟩
set_option maxRecDepth 100000 in
set_option maxHeartbeats 800000 in
theorem rData_any (w : World) (ve vp : Value) (V : Nat → Vs) (L : Lg) (h : LogIn w ve vp V L) (hsm : SmL L) (hl : L.ev.length ≤ 64) (a b : Int) :
    Calls Try.prog 19 #[.agg #[ve, vp], .int .i64 a, .int .i64 b] w (FPost (dtB L a b) w) := by
  rw [dtB_rcf]
  obtain ⟨M, hM⟩ : ∃ B, B = mayL L := ⟨_, rfl⟩
  rw [← hM]
  have HSM := Lib.hid hsm
  have HL := Lib.hid hl
  clear hsm hl
  have q1 := Sl.cells_eq h.row
  have q2 := Sl.cells_eq h.prow
  have s1 := Sl.run_st (P := Try.prog) h.row
  have s2 := Sl.run_st (P := Try.prog) h.prow
  obtain ⟨w0, hw0⟩ : ∃ w0, w0 = w.alloc (.cells #[ve, vp] 30) := ⟨_, rfl⟩
  obtain ⟨g0, hg0⟩ : ∃ g, g = w.heap.size := ⟨_, rfl⟩
  have x0 : Ext w w0 := by rw [hw0]; exact (Mod.refl _ _).alloc _
  have b0 : RLogBox w0 g0 ve vp := ⟨by rw [hw0, hg0]; exact heap_alloc_new _ _⟩
  have HW := Lib.hid (And.intro hw0 (And.intro hg0 x0))
  have KE : Hid (∀ w', Ext w0 w' → LogIn w' ve vp V L ∧ RLogBox w' g0 ve vp) := Lib.hid fun w' x => ⟨h.ext (x0.trans x), b0.ext x⟩
  have KF : Hid (∀ w', Ext w0 w' → w'.cell? ⟨g0, 0, none⟩ = some ve ∧ w'.cell? ⟨g0, 1, none⟩ = some vp) := Lib.hid fun w' x => (b0.ext x).cells
  have l1 := h.row.run_len (P := Try.prog) IRe.und 3
  have HI := Lib.hid (h.row.run_idx (P := Try.prog) IRe.und IRe.size .i64)
  clear h hw0 hg0 x0 b0
  cases M with
  | false =>
    have HM := Lib.hid hM.symm
    clear hM
    go_enter Try.func19, Try.ntmps19
    go_upto_region 1 with fail
    rw [← HW.out.1, ← HW.out.2.1]
    clear s1 s2
    refine wp_region_plan [(0, true), (1, false), (2, true), (3, true), (4, true), (6, true), (7, true), (5, false), (8, false), (9, true), (10, true)] (fun w' => w'.cell? ⟨g0, 0, none⟩ = some ve ∧ w'.cell? ⟨g0, 1, none⟩ = some vp) (by kernel_rfl) (by kernel_rfl) (by kernel_rfl) (fun _ d _ _ _ h => by cases d <;> exact h) (KF.out _ (Mod.drew (Mod.refl _ _))) ?_
    simp only [planL, getO]
    (refine plan_take (v := ?_) (by rfl) (fun wS hS => ?_) ?_; rotate_left; (focus ((try dsimp only at hS); go_simp; (try with_reducible rfl); done)); (try simp only [Act.put, List.setIfInBounds_toArray, List.set_cons_zero, List.set_cons_succ]))
    refine plan_call (fun K hK => ?_)
    go_simp
    go_at_call 58; refine (rmay_any _ ve vp V L (KE.out _ (Mod.drew (Mod.refl _ _))).1 HSM.out).mono ?_; rintro e w1 ⟨rfl, y1⟩; have E1 : Ext w0 w1 := Mod.trans (Mod.drew (Mod.refl _ _)) y1; rw [HM.out]
    refine hK.out _ _ (KF.out _ E1) ?_
    clear hK K
    (try simp only [Act.put, List.setIfInBounds_toArray, List.set_cons_zero, List.set_cons_succ])
    (refine plan_take (v := ?_) (by rfl) (fun wS hS => ?_) ?_; rotate_left; (focus ((try dsimp only at hS); go_simp; (try with_reducible rfl); done)); (try simp only [Act.put, List.setIfInBounds_toArray, List.set_cons_zero, List.set_cons_succ]))
    iterate 4 (refine plan_skip (by rfl) ?_; (try simp only [Act.put, List.setIfInBounds_toArray, List.set_cons_zero, List.set_cons_succ]))
    (refine plan_skip (by rfl) ?_; (try simp only [Act.put, List.setIfInBounds_toArray, List.set_cons_zero, List.set_cons_succ]))
    (refine plan_skip (by rfl) ?_; (try simp only [Act.put, List.setIfInBounds_toArray, List.set_cons_zero, List.set_cons_succ]))
    iterate 2 (refine plan_take (v := ?_) (by rfl) (fun wS hS => ?_) ?_; rotate_left; (focus ((try dsimp only at hS); go_simp; (try with_reducible rfl); done)); (try simp only [Act.put, List.setIfInBounds_toArray, List.set_cons_zero, List.set_cons_succ]))
    refine plan_nil ?_
    go_wp2_with fail
    go_ret
    exact ⟨ret_bool rfl, HW.out.2.2.trans E1⟩
  | true =>
    have HM := Lib.hid hM.symm
    clear hM
    go_enter Try.func19, Try.ntmps19
    go_upto_region 1 with fail
    rw [← HW.out.1, ← HW.out.2.1]
    clear s1 s2
    refine wp_region_plan [(0, true), (1, false), (2, true), (3, true), (4, true), (6, true), (7, true), (5, false), (8, false), (9, true), (10, true)] (fun w' => w'.cell? ⟨g0, 0, none⟩ = some ve ∧ w'.cell? ⟨g0, 1, none⟩ = some vp) (by kernel_rfl) (by kernel_rfl) (by kernel_rfl) (fun _ d _ _ _ h => by cases d <;> exact h) (KF.out _ (Mod.drew (Mod.refl _ _))) ?_
    simp only [planL, getO]
    (refine plan_take (v := ?_) (by rfl) (fun wS hS => ?_) ?_; rotate_left; (focus ((try dsimp only at hS); go_simp; (try with_reducible rfl); done)); (try simp only [Act.put, List.setIfInBounds_toArray, List.set_cons_zero, List.set_cons_succ]))
    refine plan_call (fun K hK => ?_)
    go_simp
    go_at_call 58; refine (rmay_any _ ve vp V L (KE.out _ (Mod.drew (Mod.refl _ _))).1 HSM.out).mono ?_; rintro e w1 ⟨rfl, y1⟩; have E1 : Ext w0 w1 := Mod.trans (Mod.drew (Mod.refl _ _)) y1; rw [HM.out]
    refine hK.out _ _ (KF.out _ E1) ?_
    clear hK K
    (try simp only [Act.put, List.setIfInBounds_toArray, List.set_cons_zero, List.set_cons_succ])
    iterate 5 (refine plan_take (v := ?_) (by rfl) (fun wS hS => ?_) ?_; rotate_left; (focus ((try dsimp only at hS); go_simp; (try with_reducible rfl); done)); (try simp only [Act.put, List.setIfInBounds_toArray, List.set_cons_zero, List.set_cons_succ]))
    refine plan_call (fun K hK => ?_)
    go_simp
    go_at_call 60; refine (rrbefore_any _ ve vp V L (KE.out _ E1).1 HSM.out HL.out).mono ?_; rintro e w2 ⟨rv, R, rfl, hlp⟩; have E2 : Ext w0 w2 := Mod.trans E1 hlp.x; have hrr := hlp.is; rw [relN_yes HM.out] at hrr; have HRR := Lib.hid hrr; clear hlp hrr
    refine hK.out _ _ (KF.out _ E2) ?_
    clear hK K
    (try simp only [Act.put, List.setIfInBounds_toArray, List.set_cons_zero, List.set_cons_succ])
    refine plan_call (fun K hK => ?_)
    go_simp
    go_at_call 62; refine (rdata_any _ ve vp V L (KE.out _ E2).1 _ _ HRR.out a b).mono ?_; rintro e w3 ⟨rfl, y3⟩; have E3 : Ext w0 w3 := Mod.trans E2 y3
    refine hK.out _ _ (KF.out _ E3) ?_
    clear hK K
    (try simp only [Act.put, List.setIfInBounds_toArray, List.set_cons_zero, List.set_cons_succ])
    iterate 2 (refine plan_take (v := ?_) (by rfl) (fun wS hS => ?_) ?_; rotate_left; (focus ((try dsimp only at hS); go_simp; (try with_reducible rfl); done)); (try simp only [Act.put, List.setIfInBounds_toArray, List.set_cons_zero, List.set_cons_succ]))
    refine plan_nil ?_
    go_wp2_with fail
    go_ret
    exact ⟨ret_bool rfl, HW.out.2.2.trans E3⟩
end Go.Proofs.Ythmkcgiiakinmaa
