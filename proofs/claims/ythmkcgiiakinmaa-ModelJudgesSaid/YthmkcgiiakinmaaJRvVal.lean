/-
  The contract of renref14.Valid. No condition.
-/
import Derived.Test.YthmkcgiiakinmaaJRvAto
import Derived.Test.YthmkcgiiakinmaaJRvCoh
namespace Go.Proofs.Ythmkcgiiakinmaa
open Go.Ren Go.RowKit
set_option linter.unusedVariables false
set_option maxRecDepth 100000 in
set_option maxHeartbeats 800000 in
theorem rvalid_any (w : World) (ve vp : Value) (V : Nat → Vs) (L : Lg) (h : LogIn w ve vp V L) (hsm : SmL L) (hl : L.ev.length ≤ 64) (ov : Value) (l : List Int) (hov : IntsAt w ov l) :
    Calls Try.prog 48 #[.agg #[ve, vp], ov] w (FPost (valB L l) w) := by
  have HLE := Lib.hid hl
  have HSM := Lib.hid hsm
  have HOV := Lib.hid hov
  obtain ⟨B, hB⟩ : ∃ B, B = valB L l := ⟨_, rfl⟩
  rw [← hB]
  obtain ⟨M, hM⟩ : ∃ x, x = mayL L := ⟨_, rfl⟩
  obtain ⟨C, hC⟩ : ∃ x, x = cohI L := ⟨_, rfl⟩
  obtain ⟨T, hT⟩ : ∃ x, x = tearI L := ⟨_, rfl⟩
  obtain ⟨O, hO⟩ : ∃ x, x = ordB L l := ⟨_, rfl⟩
  obtain ⟨A, hA⟩ : ∃ x, x = atoI L l := ⟨_, rfl⟩
  have HB : Hid (B = (M && decide (C = -1) && decide (T = -1) && O && decide (A = -1))) := Lib.hid (by rw [hB, hM, hC, hT, hO, hA]; rfl)
  have HM := Lib.hid hM.symm
  have HC := Lib.hid hC.symm
  have HT := Lib.hid hT.symm
  have HO := Lib.hid hO
  have HA := Lib.hid hA.symm
  clear hl hsm hov hB hM hC hT hO hA
  have q1 := Sl.cells_eq h.row
  have q2 := Sl.cells_eq h.prow
  have s1 := Sl.run_st (P := Try.prog) h.row
  have s2 := Sl.run_st (P := Try.prog) h.prow
  obtain ⟨w0, hw0⟩ : ∃ w0, w0 = w.alloc (.cells #[ve, vp] 30) := ⟨_, rfl⟩
  obtain ⟨g0, hg0⟩ : ∃ g, g = w.heap.size := ⟨_, rfl⟩
  have x0 : Ext w w0 := by rw [hw0]; exact (Mod.refl _ _).alloc _
  have b0 : RLogBox w0 g0 ve vp := ⟨by rw [hw0, hg0]; exact heap_alloc_new _ _⟩
  have HW := Lib.hid (And.intro hw0 (And.intro hg0 x0))
  have KE : Hid (∀ w', Ext w0 w' → LogIn w' ve vp V L ∧ RLogBox w' g0 ve vp) := Lib.hid fun w' x => ⟨h.ext (x0.trans x), b0.ext x⟩
  have HI := Lib.hid (h.row.run_idx (P := Try.prog) IRe.und IRe.size .i64)
  have HJ := Lib.hid (h.prow.run_idx (P := Try.prog) IP.und IP.size .i64)
  have l1 := h.row.run_len (P := Try.prog) IRe.und 3
  have l2 := h.prow.run_len (P := Try.prog) IP.und 3
  obtain ⟨c0, c1⟩ := b0.cells
  clear hw0 hg0 x0 b0 h
  go_enter Try.func48, Try.ntmps48
  go_upto_region 1 with fail
  rw [← HW.out.1, ← HW.out.2.1]
  clear s1 s2
  go_wp2_with fail
  refine (rmay_any _ ve vp V L (KE.out _ (Mod.refl _ _)).1 HSM.out).mono ?_
  rintro e w1 ⟨rfl, z1⟩
  have Y1 := Lib.hid z1
  rw [HM.out]
  clear z1 c0 c1
  cases M with
  | false =>
    go_wp2_with fail
    go_ret
    exact ⟨ret_bool (by rw [HB.out]; rfl), HW.out.2.2.trans Y1.out⟩
  | true =>
    obtain ⟨c0, c1⟩ := (KE.out _ Y1.out).2.cells
    go_wp2_with fail
    refine (rcoherent_any _ ve vp V L (KE.out _ Y1.out).1 HSM.out HLE.out).mono ?_
    rintro e w2 ⟨rfl, z2⟩
    have Y2 := Lib.hid (Mod.trans Y1.out z2)
    rw [HC.out]
    clear z2 c0 c1
    by_cases hC : C = -1
    · subst hC
      obtain ⟨c0, c1⟩ := (KE.out _ Y2.out).2.cells
      go_wp2_with fail
      refine (rtearfree_any _ ve vp V L (KE.out _ Y2.out).1 HSM.out HLE.out).mono ?_
      rintro e w3 ⟨rfl, z3⟩
      have Y3 := Lib.hid (Mod.trans Y2.out z3)
      rw [HT.out]
      clear z3 c0 c1
      by_cases hT : T = -1
      · subst hT
        obtain ⟨c0, c1⟩ := (KE.out _ Y3.out).2.cells
        go_wp2_with fail
        refine (rordered_any _ ve vp V L (KE.out _ Y3.out).1 HSM.out HLE.out ov l (HOV.out.ext (HW.out.2.2.trans Y3.out))).mono ?_
        rintro e w4 ⟨rfl, z4⟩
        have Y4 := Lib.hid (Mod.trans Y3.out z4)
        rw [show ordI L l = (if O = true then -1 else 0) by rw [HO.out]; rfl]
        clear z4 c0 c1
        cases O with
        | false =>
          simp only [Bool.false_eq_true, if_false]
          have HF : Hid (B = false) := Lib.hid (by rw [HB.out]; simp)
          go_wp2_with fail
          go_ret
          exact ⟨ret_bool (by rw [HF.out]), HW.out.2.2.trans Y4.out⟩
        | true =>
          simp only [if_true]
          obtain ⟨c0, c1⟩ := (KE.out _ Y4.out).2.cells
          go_wp2_with fail
          refine (ratomic_any _ ve vp V L (KE.out _ Y4.out).1 HSM.out HLE.out ov l (HOV.out.ext (HW.out.2.2.trans Y4.out))).mono ?_
          rintro e w5 ⟨rfl, z5⟩
          have Y5 := Lib.hid (Mod.trans Y4.out z5)
          rw [HA.out]
          clear z5 c0 c1
          by_cases hA : A = -1
          · subst hA
            go_wp2_with fail
            go_ret
            exact ⟨ret_bool (by rw [HB.out]; rfl), HW.out.2.2.trans Y5.out⟩
          · have eA : (A == -1) = false := by simpa using hA
            have HF : Hid (B = false) := Lib.hid (by rw [HB.out]; simp [hA])
            clear hA
            go_wp2_with fail
            go_ret
            exact ⟨ret_bool (by rw [HF.out]), HW.out.2.2.trans Y5.out⟩
      · have eT : (T == -1) = false := by simpa using hT
        have HF : Hid (B = false) := Lib.hid (by rw [HB.out]; simp [hT])
        clear hT
        go_wp2_with fail
        go_ret
        exact ⟨ret_bool (by rw [HF.out]), HW.out.2.2.trans Y3.out⟩
    · have eC : (C == -1) = false := by simpa using hC
      have HF : Hid (B = false) := Lib.hid (by rw [HB.out]; simp [hC])
      clear hC
      go_wp2_with fail
      go_ret
      exact ⟨ret_bool (by rw [HF.out]), HW.out.2.2.trans Y2.out⟩
end Go.Proofs.Ythmkcgiiakinmaa
