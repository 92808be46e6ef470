/-
  The contracts of slices.EqualFunc with event.alike, of event.Same, of renlaw14.Few. No condition.
-/
import Derived.Test.YtkibdabbjbcboaaEvAlike
import Derived.Test.YtkibdabbjbcboaaEvHead
namespace Go.Proofs.Ytkibdabbjbcboaa
open Go.Ren Go.RowKit
set_option linter.unusedVariables false

set_option maxRecDepth 100000 in
set_option maxHeartbeats 1600000 in
theorem evsEqual_any (w : World) (v1 v2 : Value) (V1 V2 : Nat → Vs) (x y : List Ev) (h1 : Sl w v1 10 x.length (flat 10 x.length (fun i j => evcell (evn x i) (V1 i) j))) (h2 : Sl w v2 10 y.length (flat 10 y.length (fun i j => evcell (evn y i) (V2 i) j)))
    (e1 : ∀ i, i < x.length → EvAt w (evn x i) (V1 i)) (e2 : ∀ i, i < y.length → EvAt w (evn y i) (V2 i)) :
    Calls Try.prog 63 #[v1, v2, .func (.func 64) #[] #[]] w (FPost (evsSame x y) w) := by
  have l1 := h1.run_len (P := Try.prog) IEv.und 3
  have l2 := h2.run_len (P := Try.prog) IEv.und 3
  have I1 := Lib.hid (h1.run_idx (P := Try.prog) IEv.und IEv.size .i64)
  have I2 := Lib.hid (h2.run_idx (P := Try.prog) IEv.und IEv.size .i64)
  have hm : (x.length : Int) ≤ 9223372036854775807 := by obtain ⟨_, c, _, q1, q2, _⟩ := h1.shape; simp only [maxLen] at q2; omega
  have q1 := Sl.cells_eq h1
  have q2 := Sl.cells_eq h2
  obtain ⟨B, hB⟩ : ∃ B, B = evsSame x y := ⟨_, rfl⟩
  rw [← hB]
  have HB := Lib.hid hB
  have HV := Lib.hid (And.intro h1 (And.intro h2 (And.intro e1 e2)))
  clear hB h1 h2 e1 e2
  by_cases hl : x.length = y.length
  case neg =>
    have ht : ((x.length : Int) != (y.length : Int)) = true := by rw [bne_iff_ne]; omega
    have HF : Hid (evsSame x y = false) := Lib.hid (by unfold evsSame; simp [hl])
    clear hl
    go_enter Try.func63, Try.ntmps63
    go_wp2_with fail
    go_ret
    exact ⟨ret_bool (by rw [HB.out]; exact HF.out.symm), Mod.refl _ _⟩
  case pos =>
    have ht : ((x.length : Int) != (y.length : Int)) = false := by rw [bne_eq_false_iff_eq]; omega
    have HL := Lib.hid hl
    clear hl
    go_enter Try.func63, Try.ntmps63
    go_wp2_with fail
    go_loopw [17] (fun s wr => ∃ k : Nat, k ≤ x.length ∧ s = .int .i64 (k : Int) ∧ (∀ j, j < k → evSame (evn x j) (evn y j) = true) ∧ Ext w wr) (fun i _ => x.length - (intOf i).toNat)
    case atStart => exact ⟨0, Nat.zero_le _, rfl, fun j hj => absurd hj (Nat.not_lt_zero _), Mod.refl _ _⟩
    case round =>
      obtain ⟨k, hk, rfl, hp, X⟩ := hrel
      have HP := Lib.hid (And.intro hp X)
      clear hp
      by_cases hlt : k < x.length
      · have hlt' : (k : Int) < (x.length : Int) := by omega
        have hlt2 : k < y.length := by have := HL.out; omega
        have j1 := I1.out k hlt
        have j2 := I2.out k hlt2
        have ea := (HV.out.2.2.1 k hlt).ext X
        have eb := (HV.out.2.2.2 k hlt2).ext X
        obtain ⟨c0, c1, c2, c3, c4, c5, c6, c7, c8, c9⟩ := evrow_cells (HV.out.1.ext (by decide) X) hlt
        obtain ⟨w1, hw1⟩ : ∃ w1, w1 = wr.alloc (.cells (evArr (evn x k) (V1 k)) 46) := ⟨_, rfl⟩
        have x1 : Ext wr w1 := by rw [hw1]; exact (Mod.refl _ _).alloc _
        obtain ⟨d0, d1, d2, d3, d4, d5, d6, d7, d8, d9⟩ := evrow_cells (HV.out.2.1.ext (by decide) (X.trans x1)) hlt2
        obtain ⟨a, ha⟩ : ∃ a, a = evn x k := ⟨_, rfl⟩
        obtain ⟨b, hb⟩ : ∃ b, b = evn y k := ⟨_, rfl⟩
        obtain ⟨v, hv⟩ : ∃ v, v = V1 k := ⟨_, rfl⟩
        obtain ⟨u, hu⟩ : ∃ u, u = V2 k := ⟨_, rfl⟩
        obtain ⟨A1, hA1⟩ : ∃ A, A = at_ v1 (k * 10) := ⟨_, rfl⟩
        obtain ⟨A2, hA2⟩ : ∃ A, A = at_ v2 (k * 10) := ⟨_, rfl⟩
        rw [← ha, ← hv] at hw1
        rw [← ha] at c0 c1 c2 c3 c4 c5 c6 ea
        rw [← hb] at d0 d1 d2 d3 d4 d5 d6 eb
        rw [← hv] at c7 c8 c9 ea
        rw [← hu] at d7 d8 d9 eb
        rw [← hA1] at j1 c0 c1 c2 c3 c4 c5 c6 c7 c8 c9
        rw [← hA2] at j2 d0 d1 d2 d3 d4 d5 d6 d7 d8 d9
        obtain ⟨k1, k2, k3, t1, t2, t3⟩ := ev_facts ea
        obtain ⟨k4, k5, k6, t4, t5, t6⟩ := ev_facts eb
        obtain ⟨g1, hg1⟩ : ∃ g, g = wr.heap.size := ⟨_, rfl⟩
        have b1 : EvBox w1 g1 a v := by rw [hw1, hg1]; exact EvBox.of wr a v
        obtain ⟨w2, hw2⟩ : ∃ w2, w2 = w1.alloc (.cells (evArr b u) 46) := ⟨_, rfl⟩
        obtain ⟨g2, hg2⟩ : ∃ g, g = w1.heap.size := ⟨_, rfl⟩
        have x2 : Ext w1 w2 := by rw [hw2]; exact (Mod.refl _ _).alloc _
        have b2 : EvBox w2 g2 b u := by rw [hw2, hg2]; exact EvBox.of w1 b u
        have b1' := b1.ext x2
        have HW := Lib.hid (And.intro hw1 (And.intro hg1 (And.intro hw2 (And.intro hg2 (And.intro (x1.trans x2) (And.intro ha hb))))))
        have HAB := Lib.hid (And.intro (ea.ext (x1.trans x2)) (eb.ext (x1.trans x2)))
        have HBX := Lib.hid (And.intro b1' b2)
        clear ha hb hv hu hA1 hA2 hw1 hg1 hw2 hg2 x1 x2 b1 b2 b1' ea eb X
        go_upto_region 6 with fail
        rw [← HW.out.1, ← HW.out.2.1]
        clear c0 c1 c2 c3 c4 c5 c6 c7 c8 c9
        go_upto_region 7 with fail
        rw [← HW.out.2.2.1, ← HW.out.2.2.2.1]
        clear d0 d1 d2 d3 d4 d5 d6 d7 d8 d9 t1 t2 t3 t4 t5 t6 k1 k2 k3 k4 k5 k6 j1 j2
        obtain ⟨c0, c1, c2, c3, c4, c5, c6, c7, c8, c9⟩ := HBX.out.1.cells
        obtain ⟨d0, d1, d2, d3, d4, d5, d6, d7, d8, d9⟩ := HBX.out.2.cells
        go_wp2_with fail
        refine (alike_any _ a b v u HAB.out.1 HAB.out.2).mono ?_
        rintro r w3 ⟨rfl, x3⟩
        have X3 : Ext w w3 := (HP.out.2.trans HW.out.2.2.2.2.1).trans x3
        cases hr : evSame a b with
        | true =>
          have HT : Hid (evSame (evn x k) (evn y k) = true) := Lib.hid (by rw [← HW.out.2.2.2.2.2.1, ← HW.out.2.2.2.2.2.2]; exact hr)
          have X3' := Lib.hid X3
          clear hr X3 x3
          go_wp2_with fail
          go_roundw
          case rel => exact ⟨k + 1, by omega, by go_num, upto_succ HP.out.1 HT.out, X3'.out⟩
          case measure => simp [intOf]; omega
        | false =>
          have HF := Lib.hid (evsSame_false (y := y) hlt (by rw [← HW.out.2.2.2.2.2.1, ← HW.out.2.2.2.2.2.2]; exact hr))
          clear hr
          go_wp2_with fail
          go_ret
          exact ⟨ret_bool (by rw [HB.out]; exact HF.out.symm), X3⟩
      · have hlt' : ¬ (k : Int) < (x.length : Int) := by omega
        obtain rfl : k = x.length := by omega
        have HT : Hid (evsSame x y = true) := Lib.hid (by
          unfold evsSame
          simp only [Bool.and_eq_true, decide_eq_true_eq, List.all_eq_true, List.mem_range]
          exact ⟨HL.out, HP.out.1⟩)
        clear X
        go_wp2_with fail
        go_ret
        exact ⟨ret_bool (by rw [HB.out]; exact HT.out.symm), HP.out.2⟩

set_option maxRecDepth 100000 in
theorem lsame_any (w : World) (ve vp ue up : Value) (V U : Nat → Vs) (L K : Lg) (h1 : LogIn w ve vp V L) (h2 : LogIn w ue up U K) :
    Calls Try.prog 44 #[.agg #[ve, vp], .agg #[ue, up]] w (FPost (lgSame L K) w) := by
  have q1 := Sl.cells_eq h1.row
  have q2 := Sl.cells_eq h1.prow
  have q3 := Sl.cells_eq h2.row
  have q4 := Sl.cells_eq h2.prow
  have s1 := Sl.run_st (P := Try.prog) h1.row
  have s2 := Sl.run_st (P := Try.prog) h1.prow
  have s3 := Sl.run_st (P := Try.prog) h2.row
  have s4 := Sl.run_st (P := Try.prog) h2.prow
  obtain ⟨w0, hw0⟩ : ∃ w0, w0 = (w.alloc (.cells #[ve, vp] 25)).alloc (.cells #[ue, up] 25) := ⟨_, rfl⟩
  obtain ⟨g, hg⟩ : ∃ g, g = w.heap.size := ⟨_, rfl⟩
  have x0 : Ext w w0 := by rw [hw0]; exact ((Mod.refl _ _).alloc _).alloc _
  have b0 : LogBox w0 g ve vp := ⟨by rw [hw0, hg]; exact heap_alloc2_old _ _ _⟩
  have b1 : LogBox w0 (g + 1) ue up := ⟨by rw [hw0, hg]; exact heap_alloc2_new _ _ _⟩
  obtain ⟨c0, c1⟩ := b0.cells
  obtain ⟨d0, d1⟩ := b1.cells
  have HW := Lib.hid (And.intro hw0 (And.intro hg (And.intro x0 (And.intro (h1.ext x0) (And.intro (h2.ext x0) (And.intro b0 b1))))))
  obtain ⟨B, hB⟩ : ∃ B, B = lgSame L K := ⟨_, rfl⟩
  rw [← hB]
  have HB := Lib.hid hB
  clear hB hw0 hg x0 b0 b1 h1 h2
  go_enter Try.func44, Try.ntmps44
  go_upto_region 1 with fail
  rw [← HW.out.1, ← HW.out.2.1]
  clear s1 s2 s3 s4
  go_wp2_with fail
  refine (evsEqual_any _ _ _ V U L.ev K.ev HW.out.2.2.2.1.row HW.out.2.2.2.2.1.row HW.out.2.2.2.1.ev HW.out.2.2.2.2.1.ev).mono ?_
  rintro r w1 ⟨rfl, x1⟩
  clear c0 c1 d0 d1
  obtain ⟨c0, c1⟩ := (HW.out.2.2.2.2.2.1.ext x1).cells
  obtain ⟨d0, d1⟩ := (HW.out.2.2.2.2.2.2.ext x1).cells
  have X1 := HW.out.2.2.1.trans x1
  have p1 : PairsAt w1 vp L.pr := ⟨(HW.out.2.2.2.1.ext x1).prow⟩
  have p2 : PairsAt w1 up K.pr := ⟨(HW.out.2.2.2.2.1.ext x1).prow⟩
  cases hr : evsSame L.ev K.ev with
  | false =>
    have HF : Hid (lgSame L K = false) := Lib.hid (by unfold lgSame; rw [hr]; rfl)
    clear hr
    go_wp2_with fail
    go_ret
    exact ⟨ret_bool (by rw [HB.out]; exact HF.out.symm), X1⟩
  | true =>
    have HT : Hid (lgSame L K = (L.pr == K.pr)) := Lib.hid (by unfold lgSame; rw [hr]; rfl)
    clear hr
    go_wp2_with fail
    refine (pequal_any _ _ _ L.pr K.pr p1 p2).mono ?_
    rintro r w2 ⟨rfl, x2⟩
    go_wp2_with fail
    go_ret
    exact ⟨ret_bool (by rw [HB.out]; exact HT.out.symm), X1.trans x2⟩
end Go.Proofs.Ytkibdabbjbcboaa
