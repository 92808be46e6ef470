/-
  The contract of renref14.shape, events of kind 2. No condition.
-/
import Derived.Test.YthmkcgiiakinmaaRvShA
namespace Go.Proofs.Ythmkcgiiakinmaa
open Go.Ren Go.RowKit
set_option linter.unusedVariables false

set_option maxRecDepth 100000 in
set_option maxHeartbeats 1600000 in
theorem shape_2 (w : World) (e : Ev) (v : Vs) (h : EvAt w e v) (hsm : e.rd.length ≤ 20000 ∧ e.wr.length ≤ 20000 ∧ e.fr.length ≤ 20000) (hg : 0 ≤ e.ag ∧ e.ag < 64) (z4 : e.kind = 2) (hr : 0 ≤ e.blk ∧ e.blk < 16 ∧ 1 ≤ e.size ∧ e.size ≤ 8 ∧ 0 ≤ e.at_ ∧ e.at_ ≤ 256 - e.size) :
    Calls Try.prog 89 #[evV e v] w (FPost (evShape e) w) := by
  obtain ⟨k1, k2, k3, t1, t2, t3⟩ := ev_facts h
  have n1 := Sl.run_len (P := Try.prog) h.rd IB.und 3
  have n2 := Sl.run_len (P := Try.prog) h.wr IB.und 3
  have n3 := h.fr.sl.run_len (P := Try.prog) II.und 3
  obtain ⟨m1, m2, m3⟩ := hsm
  have m1 : (e.rd.length : Int) ≤ 20000 := by omega
  have m2 : (e.wr.length : Int) ≤ 20000 := by omega
  have m3 : (e.fr.length : Int) ≤ 20000 := by omega
  obtain ⟨w0, hw0⟩ : ∃ w0, w0 = w.alloc (.cells (evArr e v) 67) := ⟨_, rfl⟩
  obtain ⟨g, hg⟩ : ∃ g, g = w.heap.size := ⟨_, rfl⟩
  have x0 : Ext w w0 := by rw [hw0]; exact (Mod.refl _ _).alloc _
  have b0 : REvBox w0 g e v := ⟨by rw [hw0, hg]; exact heap_alloc_new _ _⟩
  have KE : Hid (∀ w', Ext w0 w' → REvBox w' g e v ∧ EvAt w' e v) := Lib.hid fun w' x => ⟨b0.ext x, h.ext (x0.trans x)⟩
  have HW := Lib.hid (And.intro hw0 (And.intro hg x0))
  obtain ⟨c0, c1, c2, c3, c4, c5, c6, c7, c8, c9⟩ := b0.cells
  obtain ⟨B, hB⟩ : ∃ B, B = evShape e := ⟨_, rfl⟩
  rw [← hB]
  have HB := Lib.hid hB
  clear hw0 hg x0 b0 h hB
  unfold evV
  have HZ4 := Lib.hid z4
  clear z4
  go_enter Try.func89, Try.ntmps89
  go_upto_region 1 with fail
  rw [← HW.out.1, ← HW.out.2.1]
  clear t1 t2 t3
  have z4 := HZ4.out
  obtain ⟨z0, z1⟩ := hg
  have z2 : 0 ≤ e.kind := by omega
  have z3 : e.kind ≤ 3 := by omega
  have e0 : (e.kind == 0) = false := by rw [beq_eq_false_iff_ne]; omega
  have hk : True := trivial
  have r1 : rdsB e = false := by unfold rdsB; rw [z4]; rfl
  have r2 : wrsB e = true := by unfold wrsB; rw [z4]; rfl
  have y3 : (e.kind != 3) = true := by rw [z4]; rfl
  have HR := Lib.hid (And.intro r1 r2)
  have HK := Lib.hid z4
  clear r1 r2 z4 hk
  have HZ := Lib.hid hr
  obtain ⟨y, y1, y2, y4, y5, y6⟩ := hr
  by_cases q0 : (e.rd.length : Int) = 0
  case neg =>
    have HF : Hid (B = false) := Lib.hid (by rw [HB.out]; cases hb : evShape e with | false => rfl | true => exfalso; rw [evShape_good (by have := HK.out; omega) z0 z1 HZ.out, HR.out.1, HR.out.2, HK.out] at hb; simp [-List.length_eq_zero_iff] at hb; omega)
    have b0 : ((e.rd.length : Int) == 0) = false := by simpa using q0
    clear q0
    go_wp2_with fail
    refine (rreads_any _ e v (KE.out _ (Mod.refl _ _)).2).mono ?_
    rintro r w1 ⟨rfl, x1⟩
    rw [HR.out.1]
    clear c0 c1 c2 c3 c4 c5 c6 c7 c8 c9
    obtain ⟨c0, c1, c2, c3, c4, c5, c6, c7, c8, c9⟩ := (KE.out _ x1).1.cells
    go_wp2_with fail
    refine (rwrites_any _ e v (KE.out _ x1).2).mono ?_
    rintro r w2 ⟨rfl, x2⟩
    rw [HR.out.2]
    clear c0 c1 c2 c3 c4 c5 c6 c7 c8 c9
    obtain ⟨c0, c1, c2, c3, c4, c5, c6, c7, c8, c9⟩ := (KE.out _ (x1.trans x2)).1.cells
    go_wp2_with fail
    go_ret
    exact ⟨ret_bool HF.out.symm, HW.out.2.2.trans (x1.trans x2)⟩
  case pos =>
    have b0 : ((e.rd.length : Int) == 0) = true := by simpa using q0
    have Q0 := Lib.hid q0
    clear q0
    by_cases q1 : (e.fr.length : Int) = 0
    case neg =>
      have HF : Hid (B = false) := Lib.hid (by rw [HB.out]; cases hb : evShape e with | false => rfl | true => exfalso; rw [evShape_good (by have := HK.out; omega) z0 z1 HZ.out, HR.out.1, HR.out.2, HK.out] at hb; simp [-List.length_eq_zero_iff] at hb; omega)
      have b1 : ((e.fr.length : Int) == 0) = false := by simpa using q1
      clear q1
      go_wp2_with fail
      refine (rreads_any _ e v (KE.out _ (Mod.refl _ _)).2).mono ?_
      rintro r w1 ⟨rfl, x1⟩
      rw [HR.out.1]
      clear c0 c1 c2 c3 c4 c5 c6 c7 c8 c9
      obtain ⟨c0, c1, c2, c3, c4, c5, c6, c7, c8, c9⟩ := (KE.out _ x1).1.cells
      go_wp2_with fail
      refine (rwrites_any _ e v (KE.out _ x1).2).mono ?_
      rintro r w2 ⟨rfl, x2⟩
      rw [HR.out.2]
      clear c0 c1 c2 c3 c4 c5 c6 c7 c8 c9
      obtain ⟨c0, c1, c2, c3, c4, c5, c6, c7, c8, c9⟩ := (KE.out _ (x1.trans x2)).1.cells
      go_wp2_with fail
      go_ret
      exact ⟨ret_bool HF.out.symm, HW.out.2.2.trans (x1.trans x2)⟩
    case pos =>
      have b1 : ((e.fr.length : Int) == 0) = true := by simpa using q1
      have Q1 := Lib.hid q1
      clear q1
      by_cases q2 : (e.wr.length : Int) = e.size
      case neg =>
        have HF : Hid (B = false) := Lib.hid (by rw [HB.out]; cases hb : evShape e with | false => rfl | true => exfalso; rw [evShape_good (by have := HK.out; omega) z0 z1 HZ.out, HR.out.1, HR.out.2, HK.out] at hb; simp [-List.length_eq_zero_iff] at hb; omega)
        have b2 : ((e.wr.length : Int) == e.size) = false := by simpa using q2
        clear q2
        go_wp2_with fail
        refine (rreads_any _ e v (KE.out _ (Mod.refl _ _)).2).mono ?_
        rintro r w1 ⟨rfl, x1⟩
        rw [HR.out.1]
        clear c0 c1 c2 c3 c4 c5 c6 c7 c8 c9
        obtain ⟨c0, c1, c2, c3, c4, c5, c6, c7, c8, c9⟩ := (KE.out _ x1).1.cells
        go_wp2_with fail
        refine (rwrites_any _ e v (KE.out _ x1).2).mono ?_
        rintro r w2 ⟨rfl, x2⟩
        rw [HR.out.2]
        clear c0 c1 c2 c3 c4 c5 c6 c7 c8 c9
        obtain ⟨c0, c1, c2, c3, c4, c5, c6, c7, c8, c9⟩ := (KE.out _ (x1.trans x2)).1.cells
        go_wp2_with fail
        go_ret
        exact ⟨ret_bool HF.out.symm, HW.out.2.2.trans (x1.trans x2)⟩
      case pos =>
        have b2 : ((e.wr.length : Int) == e.size) = true := by simpa using q2
        have Q2 := Lib.hid q2
        clear q2
        have HF : Hid (B = true) := Lib.hid (by rw [HB.out, evShape_good (by have := HK.out; omega) z0 z1 HZ.out, HR.out.1, HR.out.2, HK.out]; simp [-List.length_eq_zero_iff, Q0.out, Q1.out, Q2.out])
        go_wp2_with fail
        refine (rreads_any _ e v (KE.out _ (Mod.refl _ _)).2).mono ?_
        rintro r w1 ⟨rfl, x1⟩
        rw [HR.out.1]
        clear c0 c1 c2 c3 c4 c5 c6 c7 c8 c9
        obtain ⟨c0, c1, c2, c3, c4, c5, c6, c7, c8, c9⟩ := (KE.out _ x1).1.cells
        go_wp2_with fail
        refine (rwrites_any _ e v (KE.out _ x1).2).mono ?_
        rintro r w2 ⟨rfl, x2⟩
        rw [HR.out.2]
        clear c0 c1 c2 c3 c4 c5 c6 c7 c8 c9
        obtain ⟨c0, c1, c2, c3, c4, c5, c6, c7, c8, c9⟩ := (KE.out _ (x1.trans x2)).1.cells
        go_wp2_with fail
        go_ret
        exact ⟨ret_bool HF.out.symm, HW.out.2.2.trans (x1.trans x2)⟩
end Go.Proofs.Ythmkcgiiakinmaa
