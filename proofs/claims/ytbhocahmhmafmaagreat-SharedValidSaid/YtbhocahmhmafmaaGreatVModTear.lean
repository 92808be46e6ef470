/-
  The contract of model.TearFree. No condition.
-/
import Derived.Test.YtbhocahmhmafmaaGreatVModHid
namespace Go.Ren
set_option linter.unusedVariables false
def TearI (L : Lg) (r i : Nat) (one : Int) : Prop := (∀ j, j < i → tearP L r j = false) ∧ ((one = -1 ∧ ∀ j, j < i → qP L r j = false) ∨ (0 ≤ one ∧ (∃ j, j < i ∧ qP L r j = true ∧ frn L r j = one) ∧ ∀ j, j < i → qP L r j = true → frn L r j = one))
theorem tear_zero (L : Lg) (r : Nat) : TearI L r 0 (-1) := ⟨fun j hj => absurd hj (Nat.not_lt_zero _), .inl ⟨rfl, fun j hj => absurd hj (Nat.not_lt_zero _)⟩⟩
theorem lt_step {P : Nat → Prop} {i : Nat} (h : ∀ j, j < i → P j) (h1 : P i) : ∀ j, j < i + 1 → P j := fun j hj => by
 by_cases e : j = i
 · subst e; exact h1
 · exact h j (by omega)
theorem tear_skip {L : Lg} {r i : Nat} {one : Int} (h : TearI L r i one) (hq : qP L r i = false) : TearI L r (i + 1) one := by
 refine ⟨lt_step h.1 ?_, ?_⟩
 · unfold tearP; exact anyB_none.2 fun j _ => by rw [hq]; simp
 · rcases h.2 with ⟨h1, h2⟩ | ⟨h1, ⟨j, h2, h3, h4⟩, h5⟩
   · exact .inl ⟨h1, lt_step h2 hq⟩
   · exact .inr ⟨h1, ⟨j, by omega, h3, h4⟩, lt_step h5 (fun h => by rw [hq] at h; cases h)⟩
theorem tear_take {L : Lg} {r i : Nat} {one : Int} (h : TearI L r i one) (hq : qP L r i = true) (ho : one < 0 ∨ one = frn L r i) : TearI L r (i + 1) (frn L r i) := by
 have h0 : 0 ≤ frn L r i := by
  unfold qP at hq
  simp only [Bool.and_eq_true, decide_eq_true_eq] at hq
  exact hq.1.1.2
 rcases h.2 with ⟨h1, h2⟩ | ⟨h1, ⟨j, h2, h3, h4⟩, h5⟩
 · refine ⟨lt_step h.1 ?_, .inr ⟨h0, ⟨i, by omega, hq, rfl⟩, lt_step (fun j hj hjq => by rw [h2 j hj] at hjq; cases hjq) (fun _ => rfl)⟩⟩
   unfold tearP; exact anyB_none.2 fun j hj => by rw [h2 j hj]; simp
 · have e : one = frn L r i := by omega
   refine ⟨lt_step h.1 ?_, .inr ⟨h0, ⟨i, by omega, hq, rfl⟩, lt_step (fun j hj hjq => (h5 j hj hjq).trans e) (fun _ => rfl)⟩⟩
   unfold tearP
   exact anyB_none.2 fun j hj => by
    cases hj' : qP L r j with
    | false => rfl
    | true => have := h5 j hj hj'; simp; intro _; omega
theorem tear_hit {L : Lg} {r i : Nat} {one : Int} (h : TearI L r i one) (hi : i < (evn L.ev r).fr.length) (hq : qP L r i = true) (h0 : 0 ≤ one) (hne : one ≠ frn L r i) : tearB L r = true := by
 rcases h.2 with ⟨h1, _⟩ | ⟨_, ⟨j, h2, h3, h4⟩, _⟩
 · omega
 · refine anyB_iff.2 ⟨i, hi, anyB_iff.2 ⟨j, h2, ?_⟩⟩
   rw [h3, hq]; simp; omega
end Go.Ren
namespace Go.Proofs.YtbhocahmhmafmaaGreat
open Go.Ren Go.RowKit
set_option linter.unusedVariables false
set_option maxRecDepth 100000 in
set_option maxHeartbeats 1600000 in
theorem tearfree_any (w : World) (ve vp : Value) (V : Nat → Vs) (L : Lg) (h : LogIn w ve vp V L) (hl : L.ev.length ≤ 64) :
 Calls Tryz.prog 77 #[.agg #[ve, vp]] w (NumPost (tearI L) w) := by
 have HLE := Lib.hid hl
 have hle : (L.ev.length : Int) ≤ 64 := by omega
 clear hl
 have q1 := Sl.cells_eq h.row
 have q2 := Sl.cells_eq h.prow
 have s1 := Sl.run_st (P := Tryz.prog) h.row
 have s2 := Sl.run_st (P := Tryz.prog) h.prow
 obtain ⟨w0, hw0⟩ : ∃ w0, w0 = w.alloc (.cells #[ve, vp] 48) := ⟨_, rfl⟩
 obtain ⟨g0, hg0⟩ : ∃ g, g = w.heap.size := ⟨_, rfl⟩
 have x0 : Ext w w0 := by rw [hw0]; exact (Mod.refl _ _).alloc _
 have b0 : LogBox w0 g0 ve vp := ⟨by rw [hw0, hg0]; exact heap_alloc_new _ _⟩
 have HW := Lib.hid (And.intro hw0 (And.intro hg0 x0))
 have KE : Hid (∀ w', Ext w0 w' → LogIn w' ve vp V L ∧ LogBox w' g0 ve vp) := Lib.hid fun w' x => ⟨h.ext (x0.trans x), b0.ext x⟩
 have HI := Lib.hid (h.row.run_idx (P := Tryz.prog) IEv.und IEv.size .i64)
 have HJ := Lib.hid (h.prow.run_idx (P := Tryz.prog) IP.und IP.size .i64)
 have l1 := h.row.run_len (P := Tryz.prog) IEv.und 3
 have l2 := h.prow.run_len (P := Tryz.prog) IP.und 3
 obtain ⟨c0, c1⟩ := b0.cells
 clear hw0 hg0 x0 b0 h
 go_enter Tryz.func77, Tryz.ntmps77
 go_upto_region 1 with fail
 rw [← HW.out.1, ← HW.out.2.1]
 clear s1 s2
 go_wp2_with fail
 refine (may_any _ ve vp V L (KE.out _ (Mod.refl _ _)).1).mono ?_
 rintro e w1 ⟨rfl, y1⟩
 clear c0 c1
 cases hm : mayL L with
 | false =>
  have HC : Hid (tearI L = 0) := Lib.hid (by unfold tearI; rw [hm]; rfl)
  clear hm
  go_wp2_with fail
  go_ret
  exact ⟨by rw [HC.out]; rfl, HW.out.2.2.trans y1⟩
 | true =>
  have HM := Lib.hid hm
  have HC : Hid (tearI L = fstN (tearB L) L.ev.length) := Lib.hid (by unfold tearI; rw [if_pos hm])
  clear hm
  obtain ⟨c0, c1⟩ := (KE.out _ y1).2.cells
  have HY1 := Lib.hid y1
  clear y1
  go_wp2_with fail
  clear c0 c1
  go_loopw [14] (fun s wr => ∃ r : Nat, r ≤ L.ev.length ∧ s = .int .i64 (r : Int) ∧ (∀ j, j < r → tearB L j = false) ∧ Ext w1 wr) (fun s _ => L.ev.length - (intOf s).toNat)
  case atStart => exact ⟨0, Nat.zero_le _, rfl, fun j hj => absurd hj (Nat.not_lt_zero _), Mod.refl _ _⟩
  case round =>
   obtain ⟨r, hr, rfl, hn, xx⟩ := hrel
   have HN := Lib.hid hn
   have HX := Lib.hid xx
   clear hn xx
   by_cases hlt : r < L.ev.length
   · have hlt' : (r : Int) < (L.ev.length : Int) := by omega
     have i0 := HI.out r hlt
     have hlg := (KE.out _ (HY1.out.trans HX.out)).1
     obtain ⟨c0, c1, c2, c3, c4, c5, c6, c7, c8, c9⟩ := hlg.cells hlt
     have hea := hlg.ev r hlt
     obtain ⟨e, he⟩ : ∃ e, e = evn L.ev r := ⟨_, rfl⟩
     obtain ⟨v, hv⟩ : ∃ v, v = V r := ⟨_, rfl⟩
     obtain ⟨A, hA⟩ : ∃ A, A = at_ ve (r * 10) := ⟨_, rfl⟩
     rw [← hA] at i0 c0 c1 c2 c3 c4 c5 c6 c7 c8 c9
     rw [← he] at c0 c1 c2 c3 c4 c5 c6 hea
     rw [← hv] at c7 c8 c9 hea
     obtain ⟨k1, k2, k3, t1, t2, t3⟩ := ev_facts hea
     obtain ⟨w5, hw5⟩ : ∃ w5, w5 = wr.alloc (.cells (evArr e v) 70) := ⟨_, rfl⟩
     obtain ⟨g5, hg5⟩ : ∃ g, g = wr.heap.size := ⟨_, rfl⟩
     have x5 : Ext wr w5 := by rw [hw5]; exact (Mod.refl _ _).alloc _
     have b5 : EvBox w5 g5 e v := by rw [hw5, hg5]; exact EvBox.of wr e v
     have HEA := Lib.hid (hea.ext x5)
     have HE := Lib.hid (And.intro he hv)
     have HW5 := Lib.hid (And.intro hw5 (And.intro hg5 (And.intro x5 b5)))
     have l5 := hea.fr.sl.run_len (P := Tryz.prog) II.und 3
     have J5 := Lib.hid (hea.fr.sl.run_idx (P := Tryz.prog) II.und II.size .i64)
     obtain ⟨d0, d1, d2, d3, d4, d5, d6, d7, d8, d9⟩ := b5.cells
     clear hlg hea he hv hA hw5 hg5 x5 b5
     go_upto_region 6 with fail
     rw [← HW5.out.1, ← HW5.out.2.1]
     clear c0 c1 c2 c3 c4 c5 c6 c7 c8 c9 t1 t2 t3 i0
     have h8 : (e.fr.length : Int) ≤ 8 := by have := may_small HM.out hlt; rw [← HE.out.1] at this; omega
     go_wp2_with fail
     clear d0 d1 d2 d3 d4 d5 d6 d7 d8 d9
     go_loopw [5, 22] (fun s5 s wq => ∃ i : Nat, i ≤ e.fr.length ∧ s = .int .i64 (i : Int) ∧ ∃ one : Int, s5 = .int .i64 one ∧ (-1 ≤ one ∧ one ≤ 64) ∧ TearI L r i one ∧ Ext w5 wq) (fun _ s _ => e.fr.length - (intOf s).toNat)
     case atStart => exact ⟨0, Nat.zero_le _, rfl, -1, rfl, by omega, tear_zero L r, Mod.refl _ _⟩
     case round =>
      obtain ⟨i, hi, rfl, one, rfl, hone, ht, xq⟩ := hrel
      obtain ⟨wq, hwq⟩ : ∃ wq, wq = wr := ⟨_, rfl⟩
      have HT := Lib.hid ht
      have HXQ := Lib.hid xq
      have HXW := Lib.hid (HX.out.trans (HW5.out.2.2.1.trans xq))
      clear ht hwq wq
      by_cases hil : i < e.fr.length
      · have hil' : (i : Int) < (e.fr.length : Int) := by omega
        have j0 := J5.out i hil
        simp only [Nat.mul_one] at j0
        have cF := IntsAt.cell (l := e.fr) (v := v.f) ((HEA.out.ext xq).fr) hil
        obtain ⟨z, hz⟩ : ∃ x, x = e.fr[i] := ⟨_, rfl⟩
        rw [← hz] at cF
        have hfx : frn L r i = z := by rw [hz]; exact frn_eq HE.out.1 hil
        have hzr := frn_may HM.out hlt (i := i) (by rw [← HE.out.1]; exact hil)
        rw [hfx] at hzr
        obtain ⟨N1, hN1⟩ : ∃ N, N = e.nt := ⟨_, rfl⟩
        have hqp : qP L r i = (N1 && decide (0 ≤ z) && (evn L.ev z.toNat).nt && evEq e (evn L.ev z.toNat)) := by unfold qP; rw [hfx, hN1, HE.out.1]
        have KF0 : Hid (∀ w', Ext wr w' → w'.cell? ⟨g0, 0, none⟩ = some ve ∧ w'.cell? ⟨g5, 0, none⟩ = some (.int .i64 e.ag) ∧ w'.cell? ⟨g5, 1, none⟩ = some (.int .i64 e.kind) ∧ w'.cell? ⟨g5, 2, none⟩ = some (.bool e.seq) ∧ w'.cell? ⟨g5, 3, none⟩ = some (.bool N1) ∧ w'.cell? ⟨g5, 4, none⟩ = some (.int .i64 e.blk) ∧ w'.cell? ⟨g5, 5, none⟩ = some (.int .i64 e.at_) ∧ w'.cell? ⟨g5, 6, none⟩ = some (.int .i64 e.size) ∧ w'.cell? ⟨g5, 7, none⟩ = some v.r ∧ w'.cell? ⟨g5, 8, none⟩ = some v.w ∧ w'.cell? ⟨g5, 9, none⟩ = some v.f) := Lib.hid fun w' y => by
         have h1 := (HW5.out.2.2.2.ext (xq.trans y)).cells
         rw [← hN1] at h1
         exact ⟨(KE.out _ (HY1.out.trans (HXW.out.trans y))).2.cells.1, h1⟩
        have HV1 : Hid (∀ w', Ext wr w' → EvAt w' ⟨e.ag, e.kind, e.seq, N1, e.blk, e.at_, e.size, e.rd, e.wr, e.fr⟩ v) := Lib.hid fun w' y => by rw [hN1]; exact HEA.out.ext (xq.trans y)
        have HFX := Lib.hid hfx
        clear hz hfx xq hN1
        rcases hzr with rfl | ⟨a, rfl, har⟩
        · have HQN : Hid (qP L r i = false) := Lib.hid (by rw [hqp]; simp)
          clear hqp
          go_upto_region 10 with fail
          cases N1 with
          | false =>
           have KF := KF0
           refine wp_region_plan [(0, true), (1, true), (2, true), (3, true), (4, true), (5, true), (6, true), (7, true), (8, true), (9, true), (10, true), (11, true), (12, true), (13, true), (14, true), (15, true), (16, true), (17, true), (18, true), (19, true), (20, true), (21, true), (22, true), (23, false), (24, true), (25, true)] (fun w' => w'.cell? ⟨g0, 0, none⟩ = some ve ∧ w'.cell? ⟨g5, 0, none⟩ = some (.int .i64 (e).ag) ∧ w'.cell? ⟨g5, 1, none⟩ = some (.int .i64 (e).kind) ∧ w'.cell? ⟨g5, 2, none⟩ = some (.bool (e).seq) ∧ w'.cell? ⟨g5, 3, none⟩ = some (.bool false) ∧ w'.cell? ⟨g5, 4, none⟩ = some (.int .i64 (e).blk) ∧ w'.cell? ⟨g5, 5, none⟩ = some (.int .i64 (e).at_) ∧ w'.cell? ⟨g5, 6, none⟩ = some (.int .i64 (e).size) ∧ w'.cell? ⟨g5, 7, none⟩ = some v.r ∧ w'.cell? ⟨g5, 8, none⟩ = some v.w ∧ w'.cell? ⟨g5, 9, none⟩ = some v.f) (by kernel_rfl) (by kernel_rfl) (by kernel_rfl) (fun _ d _ _ _ h => by cases d <;> exact h) (KF.out _ (Mod.drew (Mod.refl _ _))) ?_
           simp only [planL, getO]
           iterate 4 (refine plan_take (v := ?_) (by rfl) (fun wS hS => ?_) ?_; rotate_left; (focus ((try dsimp only at hS); go_simp; (try with_reducible rfl); done)); (try simp only [Act.put, List.setIfInBounds_toArray, List.set_cons_zero, List.set_cons_succ]))
           iterate 2 (refine plan_skip (by rfl) ?_; (try simp only [Act.put, List.setIfInBounds_toArray, List.set_cons_zero, List.set_cons_succ]))
           iterate 2 (refine plan_take (v := ?_) (by rfl) (fun wS hS => ?_) ?_; rotate_left; (focus ((try dsimp only at hS); go_simp; (try with_reducible rfl); done)); (try simp only [Act.put, List.setIfInBounds_toArray, List.set_cons_zero, List.set_cons_succ]))
           iterate 7 (refine plan_skip (by rfl) ?_; (try simp only [Act.put, List.setIfInBounds_toArray, List.set_cons_zero, List.set_cons_succ]))
           iterate 2 (refine plan_take (v := ?_) (by rfl) (fun wS hS => ?_) ?_; rotate_left; (focus ((try dsimp only at hS); go_simp; (try with_reducible rfl); done)); (try simp only [Act.put, List.setIfInBounds_toArray, List.set_cons_zero, List.set_cons_succ]))
           iterate 8 (refine plan_skip (by rfl) ?_; (try simp only [Act.put, List.setIfInBounds_toArray, List.set_cons_zero, List.set_cons_succ]))
           (refine plan_take (v := ?_) (by rfl) (fun wS hS => ?_) ?_; rotate_left; (focus ((try dsimp only at hS); go_simp; (try with_reducible rfl); done)); (try simp only [Act.put, List.setIfInBounds_toArray, List.set_cons_zero, List.set_cons_succ]))
           refine plan_nil ?_
           have HNN := Lib.hid (tear_skip HT.out HQN.out)
           go_wp2_with fail
           go_roundw
           case rel => exact ⟨i + 1, by omega, by go_num, one, rfl, hone, HNN.out, HXQ.out.trans (Mod.drew (Mod.refl _ _))⟩
           case measure => simp [intOf]; omega
          | true =>
           have KF := KF0
           refine wp_region_plan [(0, true), (1, true), (2, true), (3, true), (4, true), (5, true), (6, true), (7, true), (8, true), (9, true), (10, true), (11, true), (12, true), (13, true), (14, true), (15, true), (16, true), (17, true), (18, true), (19, true), (20, true), (21, true), (22, true), (23, false), (24, true), (25, true)] (fun w' => w'.cell? ⟨g0, 0, none⟩ = some ve ∧ w'.cell? ⟨g5, 0, none⟩ = some (.int .i64 (e).ag) ∧ w'.cell? ⟨g5, 1, none⟩ = some (.int .i64 (e).kind) ∧ w'.cell? ⟨g5, 2, none⟩ = some (.bool (e).seq) ∧ w'.cell? ⟨g5, 3, none⟩ = some (.bool true) ∧ w'.cell? ⟨g5, 4, none⟩ = some (.int .i64 (e).blk) ∧ w'.cell? ⟨g5, 5, none⟩ = some (.int .i64 (e).at_) ∧ w'.cell? ⟨g5, 6, none⟩ = some (.int .i64 (e).size) ∧ w'.cell? ⟨g5, 7, none⟩ = some v.r ∧ w'.cell? ⟨g5, 8, none⟩ = some v.w ∧ w'.cell? ⟨g5, 9, none⟩ = some v.f) (by kernel_rfl) (by kernel_rfl) (by kernel_rfl) (fun _ d _ _ _ h => by cases d <;> exact h) (KF.out _ (Mod.drew (Mod.refl _ _))) ?_
           simp only [planL, getO]
           iterate 8 (refine plan_take (v := ?_) (by rfl) (fun wS hS => ?_) ?_; rotate_left; (focus ((try dsimp only at hS); go_simp; (try with_reducible rfl); done)); (try simp only [Act.put, List.setIfInBounds_toArray, List.set_cons_zero, List.set_cons_succ]))
           iterate 7 (refine plan_skip (by rfl) ?_; (try simp only [Act.put, List.setIfInBounds_toArray, List.set_cons_zero, List.set_cons_succ]))
           iterate 2 (refine plan_take (v := ?_) (by rfl) (fun wS hS => ?_) ?_; rotate_left; (focus ((try dsimp only at hS); go_simp; (try with_reducible rfl); done)); (try simp only [Act.put, List.setIfInBounds_toArray, List.set_cons_zero, List.set_cons_succ]))
           iterate 8 (refine plan_skip (by rfl) ?_; (try simp only [Act.put, List.setIfInBounds_toArray, List.set_cons_zero, List.set_cons_succ]))
           (refine plan_take (v := ?_) (by rfl) (fun wS hS => ?_) ?_; rotate_left; (focus ((try dsimp only at hS); go_simp; (try with_reducible rfl); done)); (try simp only [Act.put, List.setIfInBounds_toArray, List.set_cons_zero, List.set_cons_succ]))
           refine plan_nil ?_
           have HNN := Lib.hid (tear_skip HT.out HQN.out)
           go_wp2_with fail
           go_roundw
           case rel => exact ⟨i + 1, by omega, by go_num, one, rfl, hone, HNN.out, HXQ.out.trans (Mod.drew (Mod.refl _ _))⟩
           case measure => simp [intOf]; omega
        · have hal : a < L.ev.length := by omega
          have i2 := HI.out a hal
          obtain ⟨x, hxe⟩ : ∃ x, x = evn L.ev a := ⟨_, rfl⟩
          obtain ⟨u, hue⟩ : ∃ u, u = V a := ⟨_, rfl⟩
          obtain ⟨A2, hA2⟩ : ∃ A, A = at_ ve (a * 10) := ⟨_, rfl⟩
          rw [← hA2] at i2
          rw [Int.toNat_natCast, ← hxe] at hqp
          obtain ⟨N2, hN2⟩ : ∃ S, S = x.nt := ⟨_, rfl⟩
          obtain ⟨Q, hQ⟩ : ∃ Q, Q = evEq e x := ⟨_, rfl⟩
          rw [← hN2, ← hQ, show decide (0 ≤ (a : Int)) = true by simp] at hqp
          have HQP : Hid (qP L r i = (N1 && true && N2 && Q)) := Lib.hid hqp
          have HQ := Lib.hid hQ.symm
          have ha64 : (a : Int) ≤ 64 := by omega
          have hna : ¬ (a : Int) < 0 := by omega
          have hxa := (KE.out _ (HY1.out.trans HXW.out)).1.ev a hal
          rw [← hxe, ← hue] at hxa
          obtain ⟨j1, j2, j3, -⟩ := ev_facts hxa
          have KF1 : Hid (∀ w', Ext wr w' → w'.cell? ⟨g0, 0, none⟩ = some ve ∧ w'.cell? ⟨g5, 0, none⟩ = some (.int .i64 (e).ag) ∧ w'.cell? ⟨g5, 1, none⟩ = some (.int .i64 (e).kind) ∧ w'.cell? ⟨g5, 2, none⟩ = some (.bool (e).seq) ∧ w'.cell? ⟨g5, 3, none⟩ = some (.bool N1) ∧ w'.cell? ⟨g5, 4, none⟩ = some (.int .i64 (e).blk) ∧ w'.cell? ⟨g5, 5, none⟩ = some (.int .i64 (e).at_) ∧ w'.cell? ⟨g5, 6, none⟩ = some (.int .i64 (e).size) ∧ w'.cell? ⟨g5, 7, none⟩ = some v.r ∧ w'.cell? ⟨g5, 8, none⟩ = some v.w ∧ w'.cell? ⟨g5, 9, none⟩ = some v.f ∧ w'.cell? A2 = some (.int .i64 (x).ag) ∧ w'.cell? ⟨A2.block, A2.off + 1, none⟩ = some (.int .i64 (x).kind) ∧ w'.cell? ⟨A2.block, A2.off + 2, none⟩ = some (.bool (x).seq) ∧ w'.cell? ⟨A2.block, A2.off + 3, none⟩ = some (.bool N2) ∧ w'.cell? ⟨A2.block, A2.off + 4, none⟩ = some (.int .i64 (x).blk) ∧ w'.cell? ⟨A2.block, A2.off + 5, none⟩ = some (.int .i64 (x).at_) ∧ w'.cell? ⟨A2.block, A2.off + 6, none⟩ = some (.int .i64 (x).size) ∧ w'.cell? ⟨A2.block, A2.off + 7, none⟩ = some u.r ∧ w'.cell? ⟨A2.block, A2.off + 8, none⟩ = some u.w ∧ w'.cell? ⟨A2.block, A2.off + 9, none⟩ = some u.f) := Lib.hid fun w' y => by
           obtain ⟨b0, b1, b2, b3, b4, b5, b6, b7, b8, b9, b10⟩ := KF0.out _ y
           have h1 := (KE.out _ (HY1.out.trans (HXW.out.trans y))).1.cells hal
           rw [← hxe, ← hue, ← hA2, ← hN2] at h1
           exact ⟨b0, b1, b2, b3, b4, b5, b6, b7, b8, b9, b10, h1⟩
          have KV : Hid (∀ w', Ext wr w' → EvAt w' ⟨e.ag, e.kind, e.seq, N1, e.blk, e.at_, e.size, e.rd, e.wr, e.fr⟩ v ∧ EvAt w' ⟨x.ag, x.kind, x.seq, N2, x.blk, x.at_, x.size, x.rd, x.wr, x.fr⟩ u) := Lib.hid fun w' y => ⟨HV1.out _ y, by rw [hN2]; exact hxa.ext y⟩
          clear hqp hxe hue hA2 hN2 hQ hxa
          go_upto_region 10 with fail
          cases N1 with
          | false =>
           have HQN : Hid (qP L r i = false) := Lib.hid (by rw [HQP.out]; rfl)
           have KF := KF1
           refine wp_region_plan [(0, true), (1, true), (2, true), (3, true), (4, true), (5, true), (6, true), (7, true), (8, true), (9, true), (10, true), (11, true), (12, true), (13, true), (14, true), (15, true), (16, true), (17, true), (18, true), (19, true), (20, true), (21, true), (22, true), (23, false), (24, true), (25, true)] (fun w' => w'.cell? ⟨g0, 0, none⟩ = some ve ∧ w'.cell? ⟨g5, 0, none⟩ = some (.int .i64 (e).ag) ∧ w'.cell? ⟨g5, 1, none⟩ = some (.int .i64 (e).kind) ∧ w'.cell? ⟨g5, 2, none⟩ = some (.bool (e).seq) ∧ w'.cell? ⟨g5, 3, none⟩ = some (.bool false) ∧ w'.cell? ⟨g5, 4, none⟩ = some (.int .i64 (e).blk) ∧ w'.cell? ⟨g5, 5, none⟩ = some (.int .i64 (e).at_) ∧ w'.cell? ⟨g5, 6, none⟩ = some (.int .i64 (e).size) ∧ w'.cell? ⟨g5, 7, none⟩ = some v.r ∧ w'.cell? ⟨g5, 8, none⟩ = some v.w ∧ w'.cell? ⟨g5, 9, none⟩ = some v.f ∧ w'.cell? A2 = some (.int .i64 (x).ag) ∧ w'.cell? ⟨A2.block, A2.off + 1, none⟩ = some (.int .i64 (x).kind) ∧ w'.cell? ⟨A2.block, A2.off + 2, none⟩ = some (.bool (x).seq) ∧ w'.cell? ⟨A2.block, A2.off + 3, none⟩ = some (.bool N2) ∧ w'.cell? ⟨A2.block, A2.off + 4, none⟩ = some (.int .i64 (x).blk) ∧ w'.cell? ⟨A2.block, A2.off + 5, none⟩ = some (.int .i64 (x).at_) ∧ w'.cell? ⟨A2.block, A2.off + 6, none⟩ = some (.int .i64 (x).size) ∧ w'.cell? ⟨A2.block, A2.off + 7, none⟩ = some u.r ∧ w'.cell? ⟨A2.block, A2.off + 8, none⟩ = some u.w ∧ w'.cell? ⟨A2.block, A2.off + 9, none⟩ = some u.f) (by kernel_rfl) (by kernel_rfl) (by kernel_rfl) (fun _ d _ _ _ h => by cases d <;> exact h) (KF.out _ (Mod.drew (Mod.refl _ _))) ?_
           simp only [planL, getO]
           iterate 4 (refine plan_take (v := ?_) (by rfl) (fun wS hS => ?_) ?_; rotate_left; (focus ((try dsimp only at hS); go_simp; (try with_reducible rfl); done)); (try simp only [Act.put, List.setIfInBounds_toArray, List.set_cons_zero, List.set_cons_succ]))
           iterate 2 (refine plan_skip (by rfl) ?_; (try simp only [Act.put, List.setIfInBounds_toArray, List.set_cons_zero, List.set_cons_succ]))
           iterate 2 (refine plan_take (v := ?_) (by rfl) (fun wS hS => ?_) ?_; rotate_left; (focus ((try dsimp only at hS); go_simp; (try with_reducible rfl); done)); (try simp only [Act.put, List.setIfInBounds_toArray, List.set_cons_zero, List.set_cons_succ]))
           iterate 7 (refine plan_skip (by rfl) ?_; (try simp only [Act.put, List.setIfInBounds_toArray, List.set_cons_zero, List.set_cons_succ]))
           iterate 2 (refine plan_take (v := ?_) (by rfl) (fun wS hS => ?_) ?_; rotate_left; (focus ((try dsimp only at hS); go_simp; (try with_reducible rfl); done)); (try simp only [Act.put, List.setIfInBounds_toArray, List.set_cons_zero, List.set_cons_succ]))
           iterate 8 (refine plan_skip (by rfl) ?_; (try simp only [Act.put, List.setIfInBounds_toArray, List.set_cons_zero, List.set_cons_succ]))
           (refine plan_take (v := ?_) (by rfl) (fun wS hS => ?_) ?_; rotate_left; (focus ((try dsimp only at hS); go_simp; (try with_reducible rfl); done)); (try simp only [Act.put, List.setIfInBounds_toArray, List.set_cons_zero, List.set_cons_succ]))
           refine plan_nil ?_
           have HNN := Lib.hid (tear_skip HT.out HQN.out)
           go_wp2_with fail
           go_roundw
           case rel => exact ⟨i + 1, by omega, by go_num, one, rfl, hone, HNN.out, HXQ.out.trans (Mod.drew (Mod.refl _ _))⟩
           case measure => simp [intOf]; omega
          | true =>
           cases N2 with
           | false =>
            have HQN : Hid (qP L r i = false) := Lib.hid (by rw [HQP.out]; rfl)
            have KF := KF1
            refine wp_region_plan [(0, true), (1, true), (2, true), (3, true), (4, true), (5, true), (6, true), (7, true), (8, true), (9, true), (10, true), (11, true), (12, true), (13, true), (14, true), (15, true), (16, true), (17, true), (18, true), (19, true), (20, true), (21, true), (22, true), (23, false), (24, true), (25, true)] (fun w' => w'.cell? ⟨g0, 0, none⟩ = some ve ∧ w'.cell? ⟨g5, 0, none⟩ = some (.int .i64 (e).ag) ∧ w'.cell? ⟨g5, 1, none⟩ = some (.int .i64 (e).kind) ∧ w'.cell? ⟨g5, 2, none⟩ = some (.bool (e).seq) ∧ w'.cell? ⟨g5, 3, none⟩ = some (.bool true) ∧ w'.cell? ⟨g5, 4, none⟩ = some (.int .i64 (e).blk) ∧ w'.cell? ⟨g5, 5, none⟩ = some (.int .i64 (e).at_) ∧ w'.cell? ⟨g5, 6, none⟩ = some (.int .i64 (e).size) ∧ w'.cell? ⟨g5, 7, none⟩ = some v.r ∧ w'.cell? ⟨g5, 8, none⟩ = some v.w ∧ w'.cell? ⟨g5, 9, none⟩ = some v.f ∧ w'.cell? A2 = some (.int .i64 (x).ag) ∧ w'.cell? ⟨A2.block, A2.off + 1, none⟩ = some (.int .i64 (x).kind) ∧ w'.cell? ⟨A2.block, A2.off + 2, none⟩ = some (.bool (x).seq) ∧ w'.cell? ⟨A2.block, A2.off + 3, none⟩ = some (.bool false) ∧ w'.cell? ⟨A2.block, A2.off + 4, none⟩ = some (.int .i64 (x).blk) ∧ w'.cell? ⟨A2.block, A2.off + 5, none⟩ = some (.int .i64 (x).at_) ∧ w'.cell? ⟨A2.block, A2.off + 6, none⟩ = some (.int .i64 (x).size) ∧ w'.cell? ⟨A2.block, A2.off + 7, none⟩ = some u.r ∧ w'.cell? ⟨A2.block, A2.off + 8, none⟩ = some u.w ∧ w'.cell? ⟨A2.block, A2.off + 9, none⟩ = some u.f) (by kernel_rfl) (by kernel_rfl) (by kernel_rfl) (fun _ d _ _ _ h => by cases d <;> exact h) (KF.out _ (Mod.drew (Mod.refl _ _))) ?_
            simp only [planL, getO]
            iterate 17 (refine plan_take (v := ?_) (by rfl) (fun wS hS => ?_) ?_; rotate_left; (focus ((try dsimp only at hS); go_simp; (try with_reducible rfl); done)); (try simp only [Act.put, List.setIfInBounds_toArray, List.set_cons_zero, List.set_cons_succ]))
            iterate 8 (refine plan_skip (by rfl) ?_; (try simp only [Act.put, List.setIfInBounds_toArray, List.set_cons_zero, List.set_cons_succ]))
            (refine plan_take (v := ?_) (by rfl) (fun wS hS => ?_) ?_; rotate_left; (focus ((try dsimp only at hS); go_simp; (try with_reducible rfl); done)); (try simp only [Act.put, List.setIfInBounds_toArray, List.set_cons_zero, List.set_cons_succ]))
            refine plan_nil ?_
            have HNN := Lib.hid (tear_skip HT.out HQN.out)
            go_wp2_with fail
            go_roundw
            case rel => exact ⟨i + 1, by omega, by go_num, one, rfl, hone, HNN.out, HXQ.out.trans (Mod.drew (Mod.refl _ _))⟩
            case measure => simp [intOf]; omega
           | true =>
            have KF := KF1
            refine wp_region_plan [(0, true), (1, true), (2, true), (3, true), (4, true), (5, true), (6, true), (7, true), (8, true), (9, true), (10, true), (11, true), (12, true), (13, true), (14, true), (15, true), (16, true), (17, true), (18, true), (19, true), (20, true), (21, true), (22, true), (23, false), (24, true), (25, true)] (fun w' => w'.cell? ⟨g0, 0, none⟩ = some ve ∧ w'.cell? ⟨g5, 0, none⟩ = some (.int .i64 (e).ag) ∧ w'.cell? ⟨g5, 1, none⟩ = some (.int .i64 (e).kind) ∧ w'.cell? ⟨g5, 2, none⟩ = some (.bool (e).seq) ∧ w'.cell? ⟨g5, 3, none⟩ = some (.bool true) ∧ w'.cell? ⟨g5, 4, none⟩ = some (.int .i64 (e).blk) ∧ w'.cell? ⟨g5, 5, none⟩ = some (.int .i64 (e).at_) ∧ w'.cell? ⟨g5, 6, none⟩ = some (.int .i64 (e).size) ∧ w'.cell? ⟨g5, 7, none⟩ = some v.r ∧ w'.cell? ⟨g5, 8, none⟩ = some v.w ∧ w'.cell? ⟨g5, 9, none⟩ = some v.f ∧ w'.cell? A2 = some (.int .i64 (x).ag) ∧ w'.cell? ⟨A2.block, A2.off + 1, none⟩ = some (.int .i64 (x).kind) ∧ w'.cell? ⟨A2.block, A2.off + 2, none⟩ = some (.bool (x).seq) ∧ w'.cell? ⟨A2.block, A2.off + 3, none⟩ = some (.bool true) ∧ w'.cell? ⟨A2.block, A2.off + 4, none⟩ = some (.int .i64 (x).blk) ∧ w'.cell? ⟨A2.block, A2.off + 5, none⟩ = some (.int .i64 (x).at_) ∧ w'.cell? ⟨A2.block, A2.off + 6, none⟩ = some (.int .i64 (x).size) ∧ w'.cell? ⟨A2.block, A2.off + 7, none⟩ = some u.r ∧ w'.cell? ⟨A2.block, A2.off + 8, none⟩ = some u.w ∧ w'.cell? ⟨A2.block, A2.off + 9, none⟩ = some u.f) (by kernel_rfl) (by kernel_rfl) (by kernel_rfl) (fun _ d _ _ _ h => by cases d <;> exact h) (KF.out _ (Mod.drew (Mod.refl _ _))) ?_
            simp only [planL, getO]
            iterate 23 (refine plan_take (v := ?_) (by rfl) (fun wS hS => ?_) ?_; rotate_left; (focus ((try dsimp only at hS); go_simp; (try with_reducible rfl); done)); (try simp only [Act.put, List.setIfInBounds_toArray, List.set_cons_zero, List.set_cons_succ]))
            refine plan_call (fun K hK => ?_)
            go_simp
            go_at_call 130; refine (equal_any _ ⟨e.ag, e.kind, e.seq, true, e.blk, e.at_, e.size, e.rd, e.wr, e.fr⟩ ⟨x.ag, x.kind, x.seq, true, x.blk, x.at_, x.size, x.rd, x.wr, x.fr⟩ v u (KV.out _ (Mod.drew (Mod.refl _ _))).1 (KV.out _ (Mod.drew (Mod.refl _ _))).2).mono ?_; rintro en w6 ⟨rfl, y6⟩; have E6 : Ext wr w6 := Mod.trans (Mod.drew (Mod.refl _ _)) y6; rw [show evEq ⟨e.ag, e.kind, e.seq, true, e.blk, e.at_, e.size, e.rd, e.wr, e.fr⟩ ⟨x.ag, x.kind, x.seq, true, x.blk, x.at_, x.size, x.rd, x.wr, x.fr⟩ = Q from HQ.out]
            refine hK.out _ _ (KF.out _ E6) ?_
            clear hK K
            (try simp only [Act.put, List.setIfInBounds_toArray, List.set_cons_zero, List.set_cons_succ])
            iterate 2 (refine plan_take (v := ?_) (by rfl) (fun wS hS => ?_) ?_; rotate_left; (focus ((try dsimp only at hS); go_simp; (try with_reducible rfl); done)); (try simp only [Act.put, List.setIfInBounds_toArray, List.set_cons_zero, List.set_cons_succ]))
            refine plan_nil ?_
            cases Q with
            | false =>
             have HQN : Hid (qP L r i = false) := Lib.hid (by rw [HQP.out]; rfl)
             simp only [Bool.not_false]
             have HNN := Lib.hid (tear_skip HT.out HQN.out)
             go_wp2_with fail
             go_roundw
             case rel => exact ⟨i + 1, by omega, by go_num, one, rfl, hone, HNN.out, HXQ.out.trans E6⟩
             case measure => simp [intOf]; omega
            | true =>
             have HQN : Hid (qP L r i = true) := Lib.hid (by rw [HQP.out]; rfl)
             simp only [Bool.not_true]
             by_cases h0 : one < 0
             · have h0' : ¬ 0 ≤ one := by omega
               have HNN := Lib.hid (tear_take HT.out HQN.out (.inl h0))
               go_wp2_with fail
               go_roundw
               case rel => exact ⟨i + 1, by omega, by go_num, (a : Int), rfl, by omega, by rw [← HFX.out]; exact HNN.out, HXQ.out.trans E6⟩
               case measure => simp [intOf]; omega
             · have h0' : 0 ≤ one := by omega
               by_cases hoa : one = (a : Int)
               · have hne : (one != (a : Int)) = false := by simp [hoa]
                 have HNN := Lib.hid (tear_take HT.out HQN.out (.inr (by rw [HFX.out]; exact hoa)))
                 clear hoa
                 go_wp2_with fail
                 go_roundw
                 case rel => exact ⟨i + 1, by omega, by go_num, (a : Int), rfl, by omega, by rw [← HFX.out]; exact HNN.out, HXQ.out.trans E6⟩
                 case measure => simp [intOf]; omega
               · have hne : (one != (a : Int)) = true := by rw [bne_iff_ne]; exact hoa
                 have HYY : Hid ((r : Int) = tearI L) := Lib.hid (by
                  rw [HC.out, fstN_hit hlt HN.out (tear_hit HT.out (by rw [← HE.out.1]; exact hil) HQN.out h0' (by rw [HFX.out]; exact hoa))])
                 clear hoa
                 go_wp2_with fail
                 go_ret
                 exact ⟨by rw [← HYY.out]; rfl, HW.out.2.2.trans (HY1.out.trans (HXW.out.trans E6))⟩
      · have hil' : ¬ (i : Int) < (e.fr.length : Int) := by omega
        have HNN : Hid (∀ j, j < r + 1 → tearB L j = false) := Lib.hid (lt_step HN.out (anyB_none.2 fun i' hi' => HT.out.1 i' (by rw [← HE.out.1] at hi'; omega)))
        clear xq
        go_wp2_with fail
        go_roundw
        case rel => exact ⟨r + 1, by omega, by go_num, HNN.out, HXW.out⟩
        case measure => simp [intOf]; omega
   · have hlt' : ¬ (r : Int) < (L.ev.length : Int) := by omega
     have HF : Hid (tearI L = -1) := Lib.hid (by rw [HC.out]; exact fstN_none fun j hj => HN.out j (by omega))
     go_wp2_with fail
     go_ret
     exact ⟨by rw [HF.out]; rfl, HW.out.2.2.trans (HY1.out.trans HX.out)⟩
end Go.Proofs.YtbhocahmhmafmaaGreat
