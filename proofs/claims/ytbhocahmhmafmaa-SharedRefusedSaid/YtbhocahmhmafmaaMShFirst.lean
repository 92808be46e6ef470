/-
  What the chapter's examples of the shared memory fix: the examples' function answers true. No condition.
-/
import Derived.Test.YtbhocahmhmafmaaMShFresh
namespace Go.Ren
def f20a : Shm := shNew 2 4
def f20b : Shm := (shMake f20a 4).2
def f20c : Shm := (shStore f20b 0 0 0 1 7 false true).2
def f20d : Shm := (shLoad f20c 0 0 0 1 false true).2
def f20e : Shm := (shLoad f20d 1 0 0 1 false true).2
def f20f : Shm := (shFl f20e 0).2
def f20g : Shm := (shLoad f20f 1 0 0 1 false true).2
theorem f20_vals : (shMake f20a 4).1 = (0, 0) ∧ (shStore f20b 0 0 0 1 7 false true).1 = 0 ∧ (shLoad f20c 0 0 0 1 false true).1 = (7, 0) ∧ (shLoad f20d 1 0 0 1 false true).1 = (0, 0) ∧ (shFl f20e 0).1 = true ∧ (shLoad f20f 1 0 0 1 false true).1 = (7, 0) := by decide +kernel
theorem f20_log : f20g.L.ev.length = 4 ∧ f20g.L.pr.length = 0 ∧ (evn f20g.L.ev 2).fr = [-1] ∧ (evn f20g.L.ev 3).fr = [0] := by decide +kernel
end Go.Ren
namespace Go.Proofs.Ytbhocahmhmafmaa
open Go.Ren Go.RowKit
set_option linter.unusedVariables false
set_option maxRecDepth 100000 in
set_option maxHeartbeats 1600000 in
theorem first20_any (w : World) : Calls Try.prog 7 #[] w fun e w' => e = .returned (.bool true) ∧ Ext w w' := by
  have HV := Lib.hid f20_vals
  have HL := Lib.hid f20_log
  go_enter Try.func7, Try.ntmps7
  go_wp2_with fail
  refine (fr_new _ 2 4).mono ?_
  rintro e w1 ⟨hA, -⟩
  obtain ⟨g, rfl, h1⟩ := hA (by decide)
  have H1 : Hid (FreshSh w w1 g f20a) := Lib.hid h1
  clear hA h1
  go_wp2_with fail
  refine (fr_make H1.out 4).mono ?_
  rintro e w2 ⟨rfl, h2⟩
  have H2 : Hid (FreshSh w w2 g f20b) := Lib.hid h2
  rw [HV.out.1]
  clear h2
  go_wp2_with fail
  refine (fr_store H2.out 0 0 0 1 7 (by decide) false true).mono ?_
  rintro e w3 ⟨rfl, h3⟩
  have H3 : Hid (FreshSh w w3 g f20c) := Lib.hid h3
  rw [HV.out.2.1]
  clear h3
  go_wp2_with fail
  refine (fr_load H3.out 0 0 0 1 false true).mono ?_
  rintro e w4 ⟨rfl, h4⟩
  have H4 : Hid (FreshSh w w4 g f20d) := Lib.hid h4
  rw [HV.out.2.2.1]
  clear h4
  go_wp2_with fail
  refine (fr_load H4.out 1 0 0 1 false true).mono ?_
  rintro e w5 ⟨rfl, h5⟩
  have H5 : Hid (FreshSh w w5 g f20e) := Lib.hid h5
  rw [HV.out.2.2.2.1]
  clear h5
  go_wp2_with fail
  refine (fr_flush H5.out 0).mono ?_
  rintro e w6 ⟨rfl, h6⟩
  have H6 : Hid (FreshSh w w6 g f20f) := Lib.hid h6
  rw [HV.out.2.2.2.2.1]
  clear h6
  go_wp2_with fail
  refine (fr_load H6.out 1 0 0 1 false true).mono ?_
  rintro e w7 ⟨rfl, h7⟩
  have H7 : Hid (FreshSh w w7 g f20g) := Lib.hid h7
  rw [HV.out.2.2.2.2.2]
  clear h7
  go_wp2_with fail
  refine (fr_log H7.out).mono ?_
  rintro e w8 ⟨hv, pv, V, rfl, lo, x8, f8⟩
  obtain ⟨la1, lc1, hhv, -⟩ := lo.row.sl.shape
  obtain ⟨la2, lc2, hpv, -⟩ := lo.prow.sl.shape
  subst hhv hpv
  go_upto_region 11 with fail
  rw [HL.out.1] at lo ⊢
  obtain ⟨ve, hve⟩ : ∃ v, v = Value.slice la1 4 lc1 := ⟨_, rfl⟩
  obtain ⟨vp, hvp⟩ : ∃ v, v = Value.slice la2 f20g.L.pr.length lc2 := ⟨_, rfl⟩
  rw [← hve, ← hvp] at lo ⊢
  obtain ⟨w9, hw9⟩ : ∃ W, W = w8.alloc (.cells #[ve, vp] 46) := ⟨_, rfl⟩
  obtain ⟨g9, hg9⟩ : ∃ g, g = w8.heap.size := ⟨_, rfl⟩
  have x9 : Ext w8 w9 := by rw [hw9]; exact (Mod.refl _ _).alloc _
  have b9 : LogBox w9 g9 ve vp := ⟨by rw [hw9, hg9]; exact heap_alloc_new _ _⟩
  rw [← hw9, ← hg9]
  have li := (log_in lo H7.out.ok).ext x9
  have X : Hid (Ext w w9) := Lib.hid ((H7.out.x.trans x8).trans x9)
  have c0 := b9.cells.1
  have ln := li.row.run_len (P := Try.prog) IEv.und 3
  rw [HL.out.1] at ln
  have i2 := li.row.run_idx (P := Try.prog) IEv.und IEv.size .i64 2 (by rw [HL.out.1]; decide)
  have i3 := li.row.run_idx (P := Try.prog) IEv.und IEv.size .i64 3 (by rw [HL.out.1]; decide)
  have d2 := (li.cells (i := 2) (by rw [HL.out.1]; decide)).2.2.2.2.2.2.2.2.2
  have d3 := (li.cells (i := 3) (by rw [HL.out.1]; decide)).2.2.2.2.2.2.2.2.2
  have e2 := (li.ev 2 (by rw [HL.out.1]; decide)).fr
  have e3 := (li.ev 3 (by rw [HL.out.1]; decide)).fr
  rw [HL.out.2.2.1] at e2
  rw [HL.out.2.2.2] at e3
  obtain ⟨u2, hu2⟩ : ∃ u, u = (V 2).f := ⟨_, rfl⟩
  obtain ⟨u3, hu3⟩ : ∃ u, u = (V 3).f := ⟨_, rfl⟩
  rw [← hu2] at d2 e2
  rw [← hu3] at d3 e3
  have m2 := e2.sl.run_len (P := Try.prog) II.und 3
  have m3 := e3.sl.run_len (P := Try.prog) II.und 3
  have j2 := e2.sl.run_idx (P := Try.prog) II.und II.size .i64 0 (by decide)
  have j3 := e3.sl.run_idx (P := Try.prog) II.und II.size .i64 0 (by decide)
  have f2 : w9.cell? (at_ u2 0) = some (.int .i64 (-1)) := e2.sl.cell 0 _ rfl
  have f3 : w9.cell? (at_ u3 0) = some (.int .i64 0) := e3.sl.cell 0 _ rfl
  obtain ⟨A2, hA2⟩ : ∃ A, A = at_ ve (2 * 10) := ⟨_, rfl⟩
  obtain ⟨A3, hA3⟩ : ∃ A, A = at_ ve (3 * 10) := ⟨_, rfl⟩
  rw [← hA2] at i2 d2
  rw [← hA3] at i3 d3
  simp only [show ((2 : Nat) : Int) = 2 from rfl, show ((3 : Nat) : Int) = 3 from rfl, show ((4 : Nat) : Int) = 4 from rfl, show (([-1] : List Int).length : Int) = 1 from rfl, show (([0] : List Int).length : Int) = 1 from rfl, Int.natCast_zero, Nat.zero_mul] at ln i2 i3 m2 m3 j2 j3 f2 f3
  clear hve hvp hw9 hg9 x9 b9 li e2 e3 hu2 hu3 hA2 hA3 lo f8 x8
  go_wp2_with fail
  go_ret
  exact ⟨rfl, X.out⟩
end Go.Proofs.Ytbhocahmhmafmaa
