/-
  A shared memory of the call's own, and the calls on it. No condition. The contracts of renlaw20.Few and renlaw20.Played. No condition. What the chapter's examples of the shared memory fix: the examples' function answers true. No condition.
-/
import Derived.Test.YtbhocahmhmafmaaGreatPShAct
import Derived.Test.YtbhocahmhmafmaaGreatPShLog
namespace Go.Proofs.YtbhocahmhmafmaaGreat
open Go.Ren Go.RowKit
set_option linter.unusedVariables false
def FrTo (w0 : World) (g : Nat) (r : Ending) (s' : Shm) (e : Ending) (w' : World) : Prop := e = r ∧ FreshSh w0 w' g s'
theorem FreshSh.ok {w0 w : World} {g : Nat} {s : Shm} (h : FreshSh w0 w g s) : ShOk s := by obtain ⟨⟨z, _, h1, _⟩, _⟩ := h; exact h1.ok
section
variable {w0 w : World} {g : Nat} {s : Shm} (h : FreshSh w0 w g s)
include h
theorem fr_load (ag k pa size : Int) (seq nt : Bool) : Calls Tryz.prog 30 #[ptr g, .int .i64 ag, .int .i64 k, .int .i64 pa, .int .i64 size, .bool seq, .bool nt] w (FrTo w0 g (.returned (.tuple #[.int .u64 ((shLoad s ag k pa size seq nt).1.1 : Int), .int .i64 (shLoad s ag k pa size seq nt).1.2])) (shLoad s ag k pa size seq nt).2) := by
 obtain ⟨⟨z, rfl, h1, f⟩, x⟩ := h
 exact (shload_any w z s h1 ag k pa size seq nt).mono fun e w' hh => ⟨hh.1, FreshSh.to rfl f x hh.2⟩
theorem fr_store (ag k pa size : Int) (m : Nat) (hm : m < 18446744073709551616) (seq nt : Bool) : Calls Tryz.prog 11 #[ptr g, .int .i64 ag, .int .i64 k, .int .i64 pa, .int .i64 size, .int .u64 (m : Int), .bool seq, .bool nt] w (FrTo w0 g (.returned (.int .i64 (shStore s ag k pa size m seq nt).1)) (shStore s ag k pa size m seq nt).2) := by
 obtain ⟨⟨z, rfl, h1, f⟩, x⟩ := h
 exact (shstore_any w z s h1 ag k pa size m hm seq nt).mono fun e w' hh => ⟨hh.1, FreshSh.to rfl f x hh.2⟩
theorem fr_flush (ag : Int) : Calls Tryz.prog 31 #[ptr g, .int .i64 ag] w (FrTo w0 g (.returned (.bool (shFl s ag).1)) (shFl s ag).2) := by
 obtain ⟨⟨z, rfl, h1, f⟩, x⟩ := h
 exact (shflush_any w z s h1 ag).mono fun e w' hh => ⟨hh.1, FreshSh.to rfl f x hh.2⟩
theorem fr_make (size : Int) : Calls Tryz.prog 29 #[ptr g, .int .i64 size] w (FrTo w0 g (.returned (.tuple #[.int .i64 ((shMake s size).1.1 : Int), .int .i64 (shMake s size).1.2])) (shMake s size).2) := by
 obtain ⟨⟨z, rfl, h1, f⟩, x⟩ := h
 exact (shmake_any w z s h1 size).mono fun e w' hh => ⟨hh.1, FreshSh.to rfl f x hh.2⟩
theorem fr_log : Calls Tryz.prog 17 #[ptr g] w (LogPost s.L w) := by
 obtain ⟨⟨z, rfl, h1, f⟩, x⟩ := h
 exact shlog_any w z s h1
end
theorem fr_new (w : World) (n r : Int) : Calls Tryz.prog 7 #[.int .i64 n, .int .i64 r] w (fun e w' =>
 ((1 ≤ n ∧ n ≤ 64 ∧ 0 ≤ r ∧ r ≤ 64) → ∃ g, e = .returned (.tuple #[ptr g, .int .i64 0]) ∧ FreshSh w w' g (shNew n.toNat r.toNat)) ∧
 (¬ (1 ≤ n ∧ n ≤ 64 ∧ 0 ≤ r ∧ r ≤ 64) → e = .returned (.tuple #[.pointer none, .int .i64 1]) ∧ w = w')) := by
 refine (shnew_any w n r).mono fun e w' hh => ⟨fun hc => ?_, hh.2⟩
 obtain ⟨z, e1, h1, x, f⟩ := hh.1 hc
 exact ⟨z.g, e1, ⟨z, rfl, h1, f⟩, x⟩
theorem log_in {w : World} {hv pv : Value} {V : Nat → Vs} {s : Shm} (h : LogOwn w hv pv V s.L) (ok : ShOk s) : LogIn w hv pv V s.L :=
 h.in_ ok.evI (fun i hi => by
  have h1 := ok.prk _ (List.getElem_mem hi)
  have h2 := ok.ev
  rw [prn_eq hi]
  unfold prOk at h1
  rw [decide_eq_true_eq] at h1
  unfold I64
  omega)
end Go.Proofs.YtbhocahmhmafmaaGreat
namespace Go.Proofs.YtbhocahmhmafmaaGreat
open Go.Ren Go.RowKit
set_option linter.unusedVariables false
def Few20Post (l : List Op20) (e : Ending) : Prop := ∃ r, e = .returned (.bool r) ∧ (r = true → l.length ≤ 60)
set_option maxRecDepth 100000 in
set_option maxHeartbeats 800000 in
theorem few20_any (w : World) (v : Value) (l : List Op20) (h : Ops20 w v l) :
 Calls Tryz.prog 9 #[v] w fun e w' => Few20Post l e ∧ Ext w w' := by
 obtain ⟨xs, hs⟩ := h.len
 have l0 := hs.run_len (P := Tryz.prog) IO20.und 3
 have HI := Lib.hid (hs.run_idx (P := Tryz.prog) IO20.und IO20.size .i64)
 have HH := Lib.hid h
 clear h hs
 go_enter Tryz.func9, Tryz.ntmps9
 go_wp2_with fail
 go_loopw [3] (fun s3 wr => ∃ k : Nat, k ≤ l.length ∧ k ≤ 60 ∧ s3 = .int .i64 (k : Int) ∧ Ext w wr) (fun i _ => l.length - (intOf i).toNat)
 case atStart => exact ⟨0, Nat.zero_le _, by omega, rfl, Mod.refl _ _⟩
 case round =>
  obtain ⟨k, hk, hk3, rfl, x⟩ := hrel
  have HX := Lib.hid x
  by_cases hlt : k < l.length
  · have hlt' : (k : Int) < (l.length : Int) := by omega
    by_cases hl3 : k < 60
    · have hl3' : (k : Int) < 60 := by omega
      have i1 := HI.out k hlt
      obtain ⟨u, hu, c0, cc⟩ := (HH.out.ext x).cells hlt
      have c10 := cc 10 _ (by decide) rfl
      have lb := hu.fr.sl.run_len (P := Tryz.prog) II.und 3
      obtain ⟨B, hB⟩ : ∃ F, F = l[k].fr.length := ⟨_, rfl⟩
      obtain ⟨A, hA⟩ : ∃ A, A = at_ v (k * 11) := ⟨_, rfl⟩
      rw [← hB] at lb
      rw [← hA] at i1 c10
      clear hu c0 cc hB hA x
      by_cases hb : 100 < B
      · have hb' : (100 : Int) < (B : Int) := by omega
        go_wp2_with fail
        go_ret
        exact ⟨⟨_, rfl, fun e => by cases e⟩, HX.out⟩
      · have hb' : ¬ (100 : Int) < (B : Int) := by omega
        go_wp2_with fail
        go_roundw
        case rel => exact ⟨k + 1, by omega, by omega, by go_num, HX.out⟩
        case measure => simp [intOf]; omega
    · have hl3' : ¬ (k : Int) < 60 := by omega
      have hl4 : ¬ (l.length : Int) ≤ 60 := by omega
      clear x
      go_wp2_with fail
      go_ret
      exact ⟨⟨_, rfl, fun e => by cases e⟩, HX.out⟩
  · have hlt' : ¬ (k : Int) < (l.length : Int) := by omega
    obtain rfl : k = l.length := by omega
    have hf' : (l.length : Int) ≤ 60 := by omega
    clear x
    go_wp2_with fail
    go_ret
    exact ⟨⟨_, rfl, fun _ => by omega⟩, HX.out⟩
theorem run_snoc (s : Shm) (l : List Op20) (o : Op20) : shRun s (l ++ [o]) = (shAct (shRun s l) o).2 := by
 induction l generalizing s with
 | nil => rfl
 | cons a l ih => exact ih _
theorem run_take {s : Shm} {l : List Op20} {k : Nat} (hk : k < l.length) : shRun s (l.take (k + 1)) = (shAct (shRun s (l.take k)) l[k]).2 := by
 rw [List.take_add_one, List.getElem?_eq_getElem hk]
 exact run_snoc _ _ _
end Go.Proofs.YtbhocahmhmafmaaGreat
namespace Go.Ren
def f20a : Shm := shNew 2 4
def f20b : Shm := (shMake f20a 4).2
def f20c : Shm := (shStore f20b 0 0 0 1 7 false true).2
def f20d : Shm := (shLoad f20c 0 0 0 1 false true).2
def f20e : Shm := (shLoad f20d 1 0 0 1 false true).2
def f20f : Shm := (shFl f20e 0).2
def f20g : Shm := (shLoad f20f 1 0 0 1 false true).2
theorem f20_vals : (shMake f20a 4).1 = (0, 0) ∧ (shStore f20b 0 0 0 1 7 false true).1 = 0 ∧ (shLoad f20c 0 0 0 1 false true).1 = (7, 0) ∧ (shLoad f20d 1 0 0 1 false true).1 = (0, 0) ∧ (shFl f20e 0).1 = true ∧ (shLoad f20f 1 0 0 1 false true).1 = (7, 0) := by decide +kernel
theorem f20_log : f20g.L.ev.length = 4 ∧ f20g.L.pr.length = 0 ∧ (evn f20g.L.ev 2).fr = [-1] ∧ (evn f20g.L.ev 3).fr = [0] := by decide +kernel
end Go.Ren
namespace Go.Proofs.YtbhocahmhmafmaaGreat
open Go.Ren Go.RowKit
set_option linter.unusedVariables false
set_option maxRecDepth 100000 in
set_option maxHeartbeats 1600000 in
theorem first20_any (w : World) : Calls Tryz.prog 6 #[] w fun e w' => e = .returned (.bool true) ∧ Ext w w' := by
 have HV := Lib.hid f20_vals
 have HL := Lib.hid f20_log
 go_enter Tryz.func6, Tryz.ntmps6
 go_wp2_with fail
 refine (fr_new _ 2 4).mono ?_
 rintro e w1 ⟨hA, -⟩
 obtain ⟨g, rfl, h1⟩ := hA (by decide)
 have H1 : Hid (FreshSh w w1 g f20a) := Lib.hid h1
 clear hA h1
 go_wp2_with fail
 refine (fr_make H1.out 4).mono ?_
 rintro e w2 ⟨rfl, h2⟩
 have H2 : Hid (FreshSh w w2 g f20b) := Lib.hid h2
 rw [HV.out.1]
 clear h2
 go_wp2_with fail
 refine (fr_store H2.out 0 0 0 1 7 (by decide) false true).mono ?_
 rintro e w3 ⟨rfl, h3⟩
 have H3 : Hid (FreshSh w w3 g f20c) := Lib.hid h3
 rw [HV.out.2.1]
 clear h3
 go_wp2_with fail
 refine (fr_load H3.out 0 0 0 1 false true).mono ?_
 rintro e w4 ⟨rfl, h4⟩
 have H4 : Hid (FreshSh w w4 g f20d) := Lib.hid h4
 rw [HV.out.2.2.1]
 clear h4
 go_wp2_with fail
 refine (fr_load H4.out 1 0 0 1 false true).mono ?_
 rintro e w5 ⟨rfl, h5⟩
 have H5 : Hid (FreshSh w w5 g f20e) := Lib.hid h5
 rw [HV.out.2.2.2.1]
 clear h5
 go_wp2_with fail
 refine (fr_flush H5.out 0).mono ?_
 rintro e w6 ⟨rfl, h6⟩
 have H6 : Hid (FreshSh w w6 g f20f) := Lib.hid h6
 rw [HV.out.2.2.2.2.1]
 clear h6
 go_wp2_with fail
 refine (fr_load H6.out 1 0 0 1 false true).mono ?_
 rintro e w7 ⟨rfl, h7⟩
 have H7 : Hid (FreshSh w w7 g f20g) := Lib.hid h7
 rw [HV.out.2.2.2.2.2]
 clear h7
 go_wp2_with fail
 refine (fr_log H7.out).mono ?_
 rintro e w8 ⟨hv, pv, V, rfl, lo, x8, f8⟩
 obtain ⟨la1, lc1, hhv, -⟩ := lo.row.sl.shape
 obtain ⟨la2, lc2, hpv, -⟩ := lo.prow.sl.shape
 subst hhv hpv
 go_upto_region 11 with fail
 rw [HL.out.1] at lo ⊢
 obtain ⟨ve, hve⟩ : ∃ v, v = Value.slice la1 4 lc1 := ⟨_, rfl⟩
 obtain ⟨vp, hvp⟩ : ∃ v, v = Value.slice la2 f20g.L.pr.length lc2 := ⟨_, rfl⟩
 rw [← hve, ← hvp] at lo ⊢
 obtain ⟨w9, hw9⟩ : ∃ W, W = w8.alloc (.cells #[ve, vp] 48) := ⟨_, rfl⟩
 obtain ⟨g9, hg9⟩ : ∃ g, g = w8.heap.size := ⟨_, rfl⟩
 have x9 : Ext w8 w9 := by rw [hw9]; exact (Mod.refl _ _).alloc _
 have b9 : LogBox w9 g9 ve vp := ⟨by rw [hw9, hg9]; exact heap_alloc_new _ _⟩
 rw [← hw9, ← hg9]
 have li := (log_in lo H7.out.ok).ext x9
 have X : Hid (Ext w w9) := Lib.hid ((H7.out.x.trans x8).trans x9)
 have c0 := b9.cells.1
 have ln := li.row.run_len (P := Tryz.prog) IEv.und 3
 rw [HL.out.1] at ln
 have i2 := li.row.run_idx (P := Tryz.prog) IEv.und IEv.size .i64 2 (by rw [HL.out.1]; decide)
 have i3 := li.row.run_idx (P := Tryz.prog) IEv.und IEv.size .i64 3 (by rw [HL.out.1]; decide)
 have d2 := (li.cells (i := 2) (by rw [HL.out.1]; decide)).2.2.2.2.2.2.2.2.2
 have d3 := (li.cells (i := 3) (by rw [HL.out.1]; decide)).2.2.2.2.2.2.2.2.2
 have e2 := (li.ev 2 (by rw [HL.out.1]; decide)).fr
 have e3 := (li.ev 3 (by rw [HL.out.1]; decide)).fr
 rw [HL.out.2.2.1] at e2
 rw [HL.out.2.2.2] at e3
 obtain ⟨u2, hu2⟩ : ∃ u, u = (V 2).f := ⟨_, rfl⟩
 obtain ⟨u3, hu3⟩ : ∃ u, u = (V 3).f := ⟨_, rfl⟩
 rw [← hu2] at d2 e2
 rw [← hu3] at d3 e3
 have m2 := e2.sl.run_len (P := Tryz.prog) II.und 3
 have m3 := e3.sl.run_len (P := Tryz.prog) II.und 3
 have j2 := e2.sl.run_idx (P := Tryz.prog) II.und II.size .i64 0 (by decide)
 have j3 := e3.sl.run_idx (P := Tryz.prog) II.und II.size .i64 0 (by decide)
 have f2 : w9.cell? (at_ u2 0) = some (.int .i64 (-1)) := e2.sl.cell 0 _ rfl
 have f3 : w9.cell? (at_ u3 0) = some (.int .i64 0) := e3.sl.cell 0 _ rfl
 obtain ⟨A2, hA2⟩ : ∃ A, A = at_ ve (2 * 10) := ⟨_, rfl⟩
 obtain ⟨A3, hA3⟩ : ∃ A, A = at_ ve (3 * 10) := ⟨_, rfl⟩
 rw [← hA2] at i2 d2
 rw [← hA3] at i3 d3
 simp only [show ((2 : Nat) : Int) = 2 from rfl, show ((3 : Nat) : Int) = 3 from rfl, show ((4 : Nat) : Int) = 4 from rfl, show (([-1] : List Int).length : Int) = 1 from rfl, show (([0] : List Int).length : Int) = 1 from rfl, Int.natCast_zero, Nat.zero_mul] at ln i2 i3 m2 m3 j2 j3 f2 f3
 clear hve hvp hw9 hg9 x9 b9 li e2 e3 hu2 hu3 hA2 hA3 lo f8 x8
 go_wp2_with fail
 go_ret
 exact ⟨rfl, X.out⟩
end Go.Proofs.YtbhocahmhmafmaaGreat
