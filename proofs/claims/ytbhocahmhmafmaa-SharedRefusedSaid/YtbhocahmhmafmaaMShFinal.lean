/-
  The contract of (*shared.Shared).Final. No condition. The contracts of (*shared.Shared).Bytes and Final, whose lists are new. No condition.
-/
import Derived.Test.YtbhocahmhmafmaaMShCopy
namespace Go.Ren
set_option linter.unusedVariables false
theorem fin_n (s : Shm) : ∀ k, (shFin s k).n = s.n ∧ (shFin s k).room = s.room ∧ (shFin s k).L = s.L
  | 0 => ⟨rfl, rfl, rfl⟩
  | k + 1 => fin_n s k
theorem fin_ok {s : Shm} (h : ShOk s) : ∀ k, k ≤ s.n → ShOk (shFin s k)
  | 0, _ => h
  | k + 1, hk => (fin_ok h k (by omega)).drain (by rw [(fin_n s k).1]; omega)
end Go.Ren
namespace Go.Proofs.Ytbhocahmhmafmaa
open Go.Ren Go.RowKit
set_option linter.unusedVariables false
theorem shbytes_at {g : Nat} {w : World} {z : ShV} {s : Shm} (h : ShIn w z s) (hg : g = z.g) : Calls Try.prog 15 #[ptr g] w fun e w' => ∃ v V, e = .returned v ∧ RowsIn w' v V s.M.length (fun i => (blk s.M i).b) ∧ Ext w w' := by subst hg; exact shbytes_any w z s h
/-- A memory of the call's own. -/
structure FreshSh (w wr : World) (g : Nat) (s : Shm) : Prop where
  ex : ∃ z, g = z.g ∧ ShIn wr z s ∧ ∀ k, z.Fp s k → w.heap.size ≤ k
  x : Ext w wr
theorem FreshSh.to {w wr w' : World} {g : Nat} {s s' : Shm} {z : ShV} (hg : g = z.g) (hf : ∀ k, z.Fp s k → w.heap.size ≤ k) (x : Ext w wr) (h : ShTo z s s' wr w') : FreshSh w w' g s' := by
  obtain ⟨z', e, h1, m, f⟩ := h
  exact ⟨⟨z', hg.trans e.symm, h1, fun k hk => (f k hk).elim (hf k) (fun h => Nat.le_trans x.size h)⟩, x.trans' m (fun q hq => .inr (hf q hq))⟩
def BytesPost (M : List Blk) (w : World) (e : Ending) (w' : World) : Prop := ∃ v V, e = .returned v ∧ RowsIn w' v V M.length (fun i => (blk M i).b) ∧ Ext w w'
set_option maxRecDepth 100000 in
theorem shfinal_any (w : World) (z : ShV) (s : Shm) (h : ShIn w z s) : Calls Try.prog 14 #[ptr z.g] w (BytesPost (shFin s s.n).M w) := by
  have HS := Lib.hid h
  clear h
  go_enter Try.func14, Try.ntmps14
  go_wp2_with fail
  refine (shcopy_any _ z s HS.out).mono ?_
  rintro e w1 ⟨z1, rfl, h1, x1, f1⟩
  obtain ⟨g, hg⟩ : ∃ g, g = z1.g := ⟨_, rfl⟩
  rw [← hg]
  have c0 := (h1.at_cells hg).1
  have H1 := Lib.hid (show FreshSh w w1 g s from ⟨⟨z1, hg, h1, f1⟩, x1⟩)
  clear h1 x1 f1 hg
  go_wp2_with fail
  go_loopw [4, 11] (fun s4 s11 wr => ∃ i : Nat, i ≤ s.n ∧ s11 = .int .i64 (i : Int) ∧ FreshSh w wr g (shFin s i)) (fun _ i _ => s.n - (intOf i).toNat)
  case atStart => exact ⟨0, Nat.zero_le _, rfl, H1.out⟩
  case round =>
    obtain ⟨i, hi, rfl, hrel⟩ := hrel
    have HR := Lib.hid hrel
    clear hrel c0
    by_cases hlt : i < s.n
    · have hlt' : (i : Int) < (s.n : Int) := by omega
      have hn64 : (s.n : Int) ≤ 64 := by have := HS.out.ok.n1; omega
      obtain ⟨⟨z2, g2, h2, f2⟩, x2⟩ := HR.out
      have H2 := Lib.hid (And.intro g2 (And.intro h2 (And.intro f2 x2)))
      clear g2 h2 f2 x2
      go_wp2_with fail
      refine (shdrain_at H2.out.1 H2.out.2.1 ⟨i, rfl, by rw [(fin_n s i).1]; exact hlt⟩).mono ?_
      rintro e w3 ⟨rfl, P⟩
      have HP := Lib.hid (FreshSh.to H2.out.1 H2.out.2.2.1 H2.out.2.2.2 P)
      clear P
      go_wp2_with fail
      go_roundw
      case rel => exact ⟨i + 1, by omega, by go_num, HP.out⟩
      case measure => simp [intOf]; omega
    · have hlt' : ¬ (i : Int) < (s.n : Int) := by omega
      obtain ⟨⟨z2, g2, h2, f2⟩, x2⟩ := HR.out
      have hin : i = s.n := by omega
      rw [hin] at h2 f2
      have H2 := Lib.hid (And.intro g2 (And.intro h2 (And.intro f2 x2)))
      clear g2 h2 f2 x2 hin
      go_wp2_with fail
      refine (shbytes_at H2.out.2.1 H2.out.1).mono ?_
      rintro e w3 ⟨v, V, rfl, r, x⟩
      have HX := Lib.hid (And.intro r x)
      clear r x
      go_wp2_with fail
      go_ret
      exact ⟨v, V, rfl, HX.out.1, H2.out.2.2.2.trans HX.out.2⟩
end Go.Proofs.Ytbhocahmhmafmaa
namespace Go.Proofs.Ytbhocahmhmafmaa
open Go.Ren Go.RowKit
set_option linter.unusedVariables false
def BytesPostF (M : List Blk) (w : World) (e : Ending) (w' : World) : Prop := ∃ v V, e = .returned v ∧ RowsIn w' v V M.length (fun i => (blk M i).b) ∧ Ext w w' ∧ ∀ q, RowsFp v V M.length q → w.heap.size ≤ q
theorem shbytesf_any (w : World) (z : ShV) (s : Shm) (h : ShIn w z s) : Calls Try.prog 15 #[ptr z.g] w (BytesPostF s.M w) := by
  have HS := Lib.hid h
  have c1 := h.cells.2.1
  clear h
  go_enter Try.func15, Try.ntmps15
  go_wp2_with fail
  refine (allf_any _ _ _ _ HS.out.blks).mono ?_
  rintro e w' ⟨v, V, rfl, r1, x1, f1⟩
  go_wp2_with fail
  go_ret
  exact ⟨v, V, rfl, r1, x1, f1⟩
theorem shbytesf_at {g : Nat} {w : World} {z : ShV} {s : Shm} (h : ShIn w z s) (hg : g = z.g) : Calls Try.prog 15 #[ptr g] w (BytesPostF s.M w) := by subst hg; exact shbytesf_any w z s h
set_option maxRecDepth 100000 in
theorem shfinalf_any (w : World) (z : ShV) (s : Shm) (h : ShIn w z s) : Calls Try.prog 14 #[ptr z.g] w (BytesPostF (shFin s s.n).M w) := by
  have HS := Lib.hid h
  clear h
  go_enter Try.func14, Try.ntmps14
  go_wp2_with fail
  refine (shcopy_any _ z s HS.out).mono ?_
  rintro e w1 ⟨z1, rfl, h1, x1, f1⟩
  obtain ⟨g, hg⟩ : ∃ g, g = z1.g := ⟨_, rfl⟩
  rw [← hg]
  have c0 := (h1.at_cells hg).1
  have H1 := Lib.hid (show FreshSh w w1 g s from ⟨⟨z1, hg, h1, f1⟩, x1⟩)
  clear h1 x1 f1 hg
  go_wp2_with fail
  go_loopw [4, 11] (fun s4 s11 wr => ∃ i : Nat, i ≤ s.n ∧ s11 = .int .i64 (i : Int) ∧ FreshSh w wr g (shFin s i)) (fun _ i _ => s.n - (intOf i).toNat)
  case atStart => exact ⟨0, Nat.zero_le _, rfl, H1.out⟩
  case round =>
    obtain ⟨i, hi, rfl, hrel⟩ := hrel
    have HR := Lib.hid hrel
    clear hrel c0
    by_cases hlt : i < s.n
    · have hlt' : (i : Int) < (s.n : Int) := by omega
      have hn64 : (s.n : Int) ≤ 64 := by have := HS.out.ok.n1; omega
      obtain ⟨⟨z2, g2, h2, f2⟩, x2⟩ := HR.out
      have H2 := Lib.hid (And.intro g2 (And.intro h2 (And.intro f2 x2)))
      clear g2 h2 f2 x2
      go_wp2_with fail
      refine (shdrain_at H2.out.1 H2.out.2.1 ⟨i, rfl, by rw [(fin_n s i).1]; exact hlt⟩).mono ?_
      rintro e w3 ⟨rfl, P⟩
      have HP := Lib.hid (FreshSh.to H2.out.1 H2.out.2.2.1 H2.out.2.2.2 P)
      clear P
      go_wp2_with fail
      go_roundw
      case rel => exact ⟨i + 1, by omega, by go_num, HP.out⟩
      case measure => simp [intOf]; omega
    · have hlt' : ¬ (i : Int) < (s.n : Int) := by omega
      obtain ⟨⟨z2, g2, h2, f2⟩, x2⟩ := HR.out
      have hin : i = s.n := by omega
      rw [hin] at h2 f2
      have H2 := Lib.hid (And.intro g2 (And.intro h2 (And.intro f2 x2)))
      clear g2 h2 f2 x2 hin
      go_wp2_with fail
      refine (shbytesf_at H2.out.2.1 H2.out.1).mono ?_
      rintro e w3 ⟨v, V, rfl, r, x, f⟩
      have HX := Lib.hid (And.intro r (And.intro x f))
      clear r x f
      go_wp2_with fail
      go_ret
      exact ⟨v, V, rfl, HX.out.1, H2.out.2.2.2.trans HX.out.2.1, fun q hq => Nat.le_trans H2.out.2.2.2.size (HX.out.2.2 q hq)⟩
end Go.Proofs.Ytbhocahmhmafmaa
