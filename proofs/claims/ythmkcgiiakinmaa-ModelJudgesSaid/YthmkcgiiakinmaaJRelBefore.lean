/-
  The contract of rel.Before. No condition.
-/
import Derived.Test.YthmkcgiiakinmaaJRelSync
import Derived.Test.YthmkcgiiakinmaaJRelAt
namespace Go.Proofs.Ythmkcgiiakinmaa
open Go.Ren Go.RowKit
set_option linter.unusedVariables false

def orR (R : Nat → Nat → Bool) (a b : Nat) : Nat → Nat → Bool := fun x y => R x y || (decide (x = a) && R b y)
theorem RelLoop.orRow {w0 w : World} {g n : Nat} {rv : Value} {r M : Nat → Nat} {R : Nat → Nat → Bool} (h : RelLoop w0 g rv r n R w) (hat : RelAt w g rv r n M) (hM : ∀ a b, a < n → b < n → (M a).testBit b = R a b) {a b : Nat} (ha : a < n) (hb : b < n) :
    RelLoop w0 g rv r n (orR R a b) (w.setCell ⟨r a, 0, none⟩ (.int .u64 ((M a ||| M b : Nat) : Int))) := by
  obtain ⟨p1, p2⟩ := hat.put ha (or_lt64 (hat.lt a ha) (hat.lt b hb))
  have p3 : Mod (RelFp g rv r n) w (w.setCell ⟨r a, 0, none⟩ (.int .u64 ((M a ||| M b : Nat) : Int))) := p2.weak (fun i hi => .inl (.inr (.inr ⟨a, ha, hi⟩)))
  refine ⟨⟨_, p1, fun x y hx hy => ?_⟩, h.x.trans' p3 (fun i hi => .inr (h.fr i hi)), h.fr⟩
  unfold orR updN
  by_cases e : x = a
  · subst e
    simp only [if_true, decide_true, Bool.true_and, Nat.testBit_or, hM x y hx hy, hM b y hb hy]
  · simp [e, hM x y hx hy]
theorem bef_step {L : Lg} {a b : Nat} (hab : a < b) (hq : hbB L a b = true) (x y : Nat) : orR (putR (befB L a b) a b) a b x y = befB L a (b + 1) x y := by
  unfold orR putR befB
  by_cases h1 : a < x
  · have : x ≠ a := by omega
    simp [h1, this]
  · by_cases h2 : x = a
    · subst h2
      have hb : ¬ b = x := by omega
      simp [hab, acc_yes hq y, hb]
    · simp [h1, h2]
theorem bef_no {L : Lg} {a b : Nat} (hq : hbB L a b = false) (x y : Nat) : befB L a b x y = befB L a (b + 1) x y := by
  unfold befB
  rw [acc_no hq y]
theorem bef_start (L : Lg) (a x y : Nat) : (if (a : Int) < (x : Int) then hbB L x y else synB L x y) = befB L a (a + 1) x y := by
  unfold befB
  rw [acc_start]
  by_cases h1 : a < x
  · rw [if_pos (by omega), if_pos h1]
  · rw [if_neg (by omega), if_neg h1]
    by_cases h2 : x = a
    · subst h2; rw [if_pos rfl]
    · rw [if_neg h2]
theorem bef_end {L : Lg} (hm : mayL L = true) {a x y : Nat} (hy : y < L.ev.length) : befB L a L.ev.length x y = (if (a : Int) - 1 < (x : Int) then hbB L x y else synB L x y) := by
  unfold befB
  by_cases h1 : a < x
  · rw [if_pos h1, if_pos (by omega)]
  · rw [if_neg h1]
    by_cases h2 : x = a
    · subst h2; rw [if_pos rfl, if_pos (by omega), acc_end hm hy]
    · rw [if_neg h2, if_neg (by omega)]

set_option maxRecDepth 100000 in
set_option maxHeartbeats 1600000 in
theorem rbefore_any (w : World) (ve vp : Value) (V : Nat → Vs) (L : Lg) (h : LogIn w ve vp V L) (hl : L.ev.length ≤ 64) :
    Calls Try.prog 26 #[.agg #[ve, vp]] w (RelPost (relN L) (hbB L) w) := by
  have q1 := Sl.cells_eq h.row
  have q2 := Sl.cells_eq h.prow
  have s1 := Sl.run_st (P := Try.prog) h.row
  have s2 := Sl.run_st (P := Try.prog) h.prow
  have HI := Lib.hid (h.row.run_idx (P := Try.prog) IEv.und IEv.size .i64)
  obtain ⟨w0, hw0⟩ : ∃ w0, w0 = w.alloc (.cells #[ve, vp] 25) := ⟨_, rfl⟩
  obtain ⟨g0, hg0⟩ : ∃ g, g = w.heap.size := ⟨_, rfl⟩
  have x0 : Ext w w0 := by rw [hw0]; exact (Mod.refl _ _).alloc _
  have b0 : LogBox w0 g0 ve vp := ⟨by rw [hw0, hg0]; exact heap_alloc_new _ _⟩
  have HW := Lib.hid (And.intro hw0 (And.intro hg0 x0))
  have KE : Hid (∀ w', Ext w0 w' → LogIn w' ve vp V L ∧ LogBox w' g0 ve vp) := Lib.hid fun w' x => ⟨h.ext (x0.trans x), b0.ext x⟩
  obtain ⟨c0, c1⟩ := b0.cells
  clear hw0 hg0 x0 b0 h
  have HL := Lib.hid hl
  clear hl
  go_enter Try.func26, Try.ntmps26
  go_upto_region 1 with fail
  rw [← HW.out.1, ← HW.out.2.1]
  clear s1 s2
  go_wp2_with fail
  refine (rsync_any _ ve vp V L (KE.out _ (Mod.refl _ _)).1 HL.out).mono ?_
  rintro e w1 h1
  obtain ⟨g, rv, r, rfl, hlp⟩ := h1.loop
  clear h1 c0 c1
  obtain ⟨n, hn⟩ : ∃ n, n = relN L := ⟨_, rfl⟩
  rw [← hn] at hlp ⊢
  have HNN := Lib.hid hn
  clear hn
  have hnle : (n : Int) ≤ 64 := by have := hlp.le; omega
  have R0 : RelLoop w0 g rv r n (fun x y => if (n : Int) - 1 < (x : Int) then hbB L x y else synB L x y) w1 := hlp.congr fun x y hx _ => (by rw [if_neg (by omega)])
  have d0 := hlp.len.1
  clear hlp
  go_wp2_with fail
  clear d0
  go_loopw [4] (fun s wr => ∃ z : Int, s = .int .i64 z ∧ -1 ≤ z ∧ z < n ∧ RelLoop w0 g rv r n (fun x y => if z < (x : Int) then hbB L x y else synB L x y) wr) (fun s _ => (intOf s + 1).toNat)
  case atStart => exact ⟨(n : Int) - 1, by go_num, by omega, by omega, R0⟩
  case round =>
    obtain ⟨z, rfl, hz1, hz2, hlp⟩ := hrel
    clear R0
    by_cases hz : 0 ≤ z
    · obtain ⟨a, rfl⟩ := Int.eq_ofNat_of_zero_le hz
      have hm : mayL L = true := by
        cases hm : mayL L with
        | true => rfl
        | false => exfalso; have h1 := HNN.out; unfold relN at h1; rw [hm, if_neg (by simp)] at h1; omega
      have hnl : n = L.ev.length := by have h1 := HNN.out; unfold relN at h1; rwa [hm, if_pos rfl] at h1
      have HM := Lib.hid (And.intro hm hnl)
      clear hm hnl
      have R1 : RelLoop w0 g rv r n (befB L a (a + 1)) wr := hlp.congr fun x y _ _ => bef_start L a x y
      clear hlp
      go_wp2_with fail
      go_loopw [5] (fun s wr => ∃ b : Nat, a < b ∧ b ≤ n ∧ s = .int .i64 (b : Int) ∧ RelLoop w0 g rv r n (befB L a b) wr) (fun s _ => n - (intOf s).toNat)
      case atStart => exact ⟨a + 1, by omega, by omega, by go_num, R1⟩
      case round =>
        obtain ⟨b, hab, hbn, rfl, hlp⟩ := hrel
        clear R1
        have d0 := hlp.len.1
        by_cases hlt : b < n
        · have hlt' : (b : Int) < (n : Int) := by omega
          have hlg := (KE.out _ hlp.x).1
          have i0 := HI.out a (by have := HM.out.2; omega)
          have i1 := HI.out b (by have := HM.out.2; omega)
          have c0 := (hlg.cells (show a < L.ev.length by have := HM.out.2; omega)).1
          have c1 := (hlg.cells (show b < L.ev.length by have := HM.out.2; omega)).1
          obtain ⟨p1, hp1⟩ : ∃ p, p = (evn L.ev a).ag := ⟨_, rfl⟩
          obtain ⟨p2, hp2⟩ : ∃ p, p = (evn L.ev b).ag := ⟨_, rfl⟩
          obtain ⟨A1, hA1⟩ : ∃ A, A = at_ ve (a * 10) := ⟨_, rfl⟩
          obtain ⟨A2, hA2⟩ : ∃ A, A = at_ ve (b * 10) := ⟨_, rfl⟩
          rw [← hp1, ← hA1] at c0
          rw [← hp2, ← hA2] at c1
          rw [← hA1] at i0
          rw [← hA2] at i1
          have KF : Hid (∀ w', Ext wr w' → w'.cell? ⟨g0, 0, none⟩ = some ve ∧ w'.cell? A1 = some (.int .i64 p1) ∧ w'.cell? A2 = some (.int .i64 p2)) := Lib.hid fun w' x => ⟨(KE.out _ (hlp.x.trans x)).2.cells.1, Ext.cell x c0, Ext.cell x c1⟩
          obtain ⟨Q, hQ⟩ : ∃ Q, Q = hbB L a b := ⟨_, rfl⟩
          have HH := Lib.hid hQ.symm
          have hte := acc_test HM.out.1 hab (by have := HM.out.2; omega)
          rw [← hp1, ← hp2, ← hQ] at hte
          have HT := Lib.hid hte
          have HLP := Lib.hid hlp
          clear hlp hlg hp1 hp2 hA1 hA2 c0 c1 hQ hte
          by_cases hag : p1 = p2
          · subst hag
            have HQT : Hid (hbB L a b = true) := Lib.hid (by have := HT.out; simp at this; rw [HH.out]; exact this)
            have HH := HQT
            go_upto_region 8 with fail
            refine wp_region_plan [(0, true), (1, true), (2, true), (3, true), (4, true), (5, true), (6, true), (7, true), (8, true), (9, true), (10, true), (11, true), (12, true), (13, true), (14, true), (15, true), (16, true), (17, false), (18, true)] (fun w' => w'.cell? ⟨g0, 0, none⟩ = some ve ∧ w'.cell? A1 = some (.int .i64 p1) ∧ w'.cell? A2 = some (.int .i64 p1)) (by kernel_rfl) (by kernel_rfl) (by kernel_rfl) (fun _ d _ _ _ h => by cases d <;> exact h) (KF.out _ (Mod.drew (Mod.refl _ _))) ?_
            simp only [planL, getO]
            iterate 14 (refine plan_take (v := ?_) (by rfl) (fun wS hS => ?_) ?_; rotate_left; (focus ((try dsimp only at hS); go_simp; (try with_reducible rfl); done)); (try simp only [Act.put, List.setIfInBounds_toArray, List.set_cons_zero, List.set_cons_succ]))
            iterate 3 (refine plan_skip (by rfl) ?_; (try simp only [Act.put, List.setIfInBounds_toArray, List.set_cons_zero, List.set_cons_succ]))
            (refine plan_skip (by rfl) ?_; (try simp only [Act.put, List.setIfInBounds_toArray, List.set_cons_zero, List.set_cons_succ]))
            (refine plan_take (v := ?_) (by rfl) (fun wS hS => ?_) ?_; rotate_left; (focus ((try dsimp only at hS); go_simp; (try with_reducible rfl); done)); (try simp only [Act.put, List.setIfInBounds_toArray, List.set_cons_zero, List.set_cons_succ]))
            refine plan_nil ?_
            have EX : Ext wr wr.drew := Mod.drew (Mod.refl _ _)
            go_wp2_with fail
            refine (rput_any w0 _ g rv r _ _ (HLP.out.ext EX) a b (by omega) hlt).mono ?_
            rintro en w8 ⟨rfl, hlp8, -⟩
            have HLP8 := Lib.hid hlp8
            have d1 := hlp8.len.2
            obtain ⟨M, hat, hM⟩ := hlp8.ex
            have j0 := hat.row.sl.run_idx (P := Try.prog) IRow.und IRow.size .i64 b hlt
            simp only [Nat.mul_one] at j0
            have c5 := hat.rowc hlt
            clear hat hM hlp8
            go_wp2_with fail
            clear d1 j0 c5
            go_loopw [60] (fun s wq => ∃ k : Nat, k ≤ 1 ∧ s = .int .i64 (k : Int) ∧ ((k = 0 ∧ RelLoop w0 g rv r n (putR (befB L a b) a b) wq) ∨ (k = 1 ∧ RelLoop w0 g rv r n (orR (putR (befB L a b) a b) a b) wq))) (fun s _ => 1 - (intOf s).toNat)
            case atStart => exact ⟨0, by omega, rfl, .inl ⟨rfl, HLP8.out⟩⟩
            case round =>
              obtain ⟨k, hk, rfl, hd⟩ := hrel
              rcases hd with ⟨rfl, hq⟩ | ⟨rfl, hq⟩
              · have HQ2 := Lib.hid hq
                have d1 := hq.len.2
                obtain ⟨M, hat, hM⟩ := hq.ex
                have j0 := hat.row.sl.run_idx (P := Try.prog) IRow.und IRow.size .i64 a (by omega)
                simp only [Nat.mul_one] at j0
                have c5 := hat.rowc (show a < n by omega)
                have c6 := (hat.wordc hlt).1
                obtain ⟨c7, f7⟩ := hat.wordc (show a < n by omega)
                have HO : Hid (bits .or .u64 (M a : Int) (M b : Int) = ((M a ||| M b : Nat) : Int)) := Lib.hid (bits_or64 (hat.lt a (by omega)) (hat.lt b hlt))
                have HP := Lib.hid (hq.orRow hat hM (show a < n by omega) hlt)
                clear hat hM hq
                go_wp2_with fail
                rw [HO.out]
                go_roundw
                case rel => exact ⟨1, by omega, by go_num, .inr ⟨rfl, HP.out⟩⟩
                case measure => simp [intOf]
              · have HQ2 := Lib.hid hq
                clear hq
                go_wp2_with fail
                go_roundw
                case rel => exact ⟨b + 1, by omega, by omega, by go_num, HQ2.out.congr fun x y _ _ => bef_step hab HH.out x y⟩
                case measure => simp [intOf]; omega
          · have hne : (p1 == p2) = false := by simpa using hag
            have HQ : Hid (hasB n (befB L a b) (a : Int) (b : Int) = Q) := Lib.hid (by
              rw [← HT.out]
              unfold hasB befB
              have : decide (0 ≤ (a : Int) ∧ (a : Int) < (n : Int) ∧ 0 ≤ (b : Int) ∧ (b : Int) < (n : Int)) = true := by rw [decide_eq_true_eq]; omega
              rw [this]
              simp [hag])
            clear hag
            go_upto_region 8 with fail
            refine wp_region_plan [(0, true), (1, true), (2, true), (3, true), (4, true), (5, true), (6, true), (7, true), (8, true), (9, true), (10, true), (11, true), (12, true), (13, true), (14, true), (15, true), (16, true), (17, false), (18, true)] (fun w' => w'.cell? ⟨g0, 0, none⟩ = some ve ∧ w'.cell? A1 = some (.int .i64 p1) ∧ w'.cell? A2 = some (.int .i64 p2)) (by kernel_rfl) (by kernel_rfl) (by kernel_rfl) (fun _ d _ _ _ h => by cases d <;> exact h) (KF.out _ (Mod.drew (Mod.refl _ _))) ?_
            simp only [planL, getO]
            iterate 17 (refine plan_take (v := ?_) (by rfl) (fun wS hS => ?_) ?_; rotate_left; (focus ((try dsimp only at hS); go_simp; (try with_reducible rfl); done)); (try simp only [Act.put, List.setIfInBounds_toArray, List.set_cons_zero, List.set_cons_succ]))
            refine plan_call (fun K hK => ?_)
            go_simp
            go_at_call 27; refine (has_any _ _ n _ (HLP.out.is.ext (Mod.drew (Mod.refl _ _))) a b).mono ?_; rintro en w6 ⟨rfl, y6⟩; have E6 : Ext wr w6 := Mod.trans (Mod.drew (Mod.refl _ _)) y6; rw [HQ.out]
            refine hK.out _ _ (KF.out _ E6) ?_
            clear hK K
            (try simp only [Act.put, List.setIfInBounds_toArray, List.set_cons_zero, List.set_cons_succ])
            (refine plan_take (v := ?_) (by rfl) (fun wS hS => ?_) ?_; rotate_left; (focus ((try dsimp only at hS); go_simp; (try with_reducible rfl); done)); (try simp only [Act.put, List.setIfInBounds_toArray, List.set_cons_zero, List.set_cons_succ]))
            refine plan_nil ?_
            clear hne
            have EX : Ext wr w6 := E6
            cases Q with
            | true =>
              go_wp2_with fail
              refine (rput_any w0 _ g rv r _ _ (HLP.out.ext EX) a b (by omega) hlt).mono ?_
              rintro en w8 ⟨rfl, hlp8, -⟩
              have HLP8 := Lib.hid hlp8
              have d1 := hlp8.len.2
              obtain ⟨M, hat, hM⟩ := hlp8.ex
              have j0 := hat.row.sl.run_idx (P := Try.prog) IRow.und IRow.size .i64 b hlt
              simp only [Nat.mul_one] at j0
              have c5 := hat.rowc hlt
              clear hat hM hlp8
              go_wp2_with fail
              clear d1 j0 c5
              go_loopw [60] (fun s wq => ∃ k : Nat, k ≤ 1 ∧ s = .int .i64 (k : Int) ∧ ((k = 0 ∧ RelLoop w0 g rv r n (putR (befB L a b) a b) wq) ∨ (k = 1 ∧ RelLoop w0 g rv r n (orR (putR (befB L a b) a b) a b) wq))) (fun s _ => 1 - (intOf s).toNat)
              case atStart => exact ⟨0, by omega, rfl, .inl ⟨rfl, HLP8.out⟩⟩
              case round =>
                obtain ⟨k, hk, rfl, hd⟩ := hrel
                rcases hd with ⟨rfl, hq⟩ | ⟨rfl, hq⟩
                · have HQ2 := Lib.hid hq
                  have d1 := hq.len.2
                  obtain ⟨M, hat, hM⟩ := hq.ex
                  have j0 := hat.row.sl.run_idx (P := Try.prog) IRow.und IRow.size .i64 a (by omega)
                  simp only [Nat.mul_one] at j0
                  have c5 := hat.rowc (show a < n by omega)
                  have c6 := (hat.wordc hlt).1
                  obtain ⟨c7, f7⟩ := hat.wordc (show a < n by omega)
                  have HO : Hid (bits .or .u64 (M a : Int) (M b : Int) = ((M a ||| M b : Nat) : Int)) := Lib.hid (bits_or64 (hat.lt a (by omega)) (hat.lt b hlt))
                  have HP := Lib.hid (hq.orRow hat hM (show a < n by omega) hlt)
                  clear hat hM hq
                  go_wp2_with fail
                  rw [HO.out]
                  go_roundw
                  case rel => exact ⟨1, by omega, by go_num, .inr ⟨rfl, HP.out⟩⟩
                  case measure => simp [intOf]
                · have HQ2 := Lib.hid hq
                  clear hq
                  go_wp2_with fail
                  go_roundw
                  case rel => exact ⟨b + 1, by omega, by omega, by go_num, HQ2.out.congr fun x y _ _ => bef_step hab HH.out x y⟩
                  case measure => simp [intOf]; omega
            | false =>
              go_wp2_with fail
              go_roundw
              case rel => exact ⟨b + 1, by omega, by omega, by go_num, (HLP.out.ext EX).congr fun x y _ _ => bef_no HH.out x y⟩
              case measure => simp [intOf]; omega
        · have hlt' : ¬ (b : Int) < (n : Int) := by omega
          have HB : Hid (b = L.ev.length) := Lib.hid (by have := HM.out.2; omega)
          have HLP := Lib.hid hlp
          clear hlp
          go_wp2_with fail
          go_roundw
          case rel => exact ⟨(a : Int) - 1, by go_num, by omega, by omega, HLP.out.congr fun x y _ hy => by have := HM.out.2; have hb := HB.out; subst hb; exact bef_end HM.out.1 (by omega)⟩
          case measure => (simp [intOf]; try omega)
    · obtain rfl : z = -1 := by omega
      have HLP := Lib.hid hlp
      clear hlp hz hz1 hz2
      go_wp2_with fail
      go_ret
      rw [← HNN.out]
      exact ((HLP.out.congr fun x y _ _ => by rw [if_pos (by omega)]).back HW.out.2.2).post
end Go.Proofs.Ythmkcgiiakinmaa
