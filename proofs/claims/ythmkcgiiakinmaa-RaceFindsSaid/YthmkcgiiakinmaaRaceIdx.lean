/-
  The contracts of slices.Index, slices.Contains at []int. No condition.
-/
import Derived.Test.YthmkcgiiakinmaaRelTool
namespace Go.Proofs.Ythmkcgiiakinmaa
open Go.Ren Go.RowKit
set_option linter.unusedVariables false

def IdxPost (l : List Int) (x : Int) (w : World) (e : Ending) (w' : World) : Prop := ∃ r : Int, e = .returned (.int .i64 r) ∧ decide (0 ≤ r) = l.contains x ∧ Ext w w'
set_option maxRecDepth 100000 in
theorem index_any (w : World) (v : Value) (l : List Int) (h : IntsAt w v l) (x : Int) :
    Calls Try.prog 104 #[v, .int .i64 x] w (IdxPost l x w) := by
  have l1 := h.sl.run_len (P := Try.prog) II.und 3
  have I1 := Lib.hid (h.sl.run_idx (P := Try.prog) II.und II.size .i64)
  have hm : (l.length : Int) ≤ 9223372036854775807 := by obtain ⟨_, c, _, q1, q2, _⟩ := h.sl.shape; simp only [maxLen] at q2; omega
  have HV := Lib.hid h
  clear h
  go_enter Try.func104, Try.ntmps104
  go_wp2_with fail
  go_loopw [8] (fun s wr => ∃ k : Nat, k ≤ l.length ∧ s = .int .i64 (k : Int) ∧ (∀ j, (hj : j < k) → (hl : j < l.length) → l[j] ≠ x) ∧ Ext w wr) (fun s _ => l.length - (intOf s).toNat)
  case atStart => exact ⟨0, Nat.zero_le _, rfl, fun j hj => absurd hj (Nat.not_lt_zero _), Mod.refl _ _⟩
  case round =>
    obtain ⟨k, hk, rfl, hn, X⟩ := hrel
    have HN := Lib.hid (And.intro hn X)
    clear hn
    by_cases hkl : k < l.length
    · have hkl' : (k : Int) < (l.length : Int) := by omega
      have j0 := I1.out k hkl
      simp only [Nat.mul_one] at j0
      have c0 := (HV.out.ext X).cell hkl
      clear X
      obtain ⟨y, hy⟩ : ∃ y, y = l[k] := ⟨_, rfl⟩
      rw [← hy] at c0
      by_cases he : x = y
      · have ht : (x == y) = true := by simpa using he
        have HR : Hid (decide (0 ≤ (k : Int)) = l.contains x) := Lib.hid (by
          have : l.contains x = true := by rw [List.contains_iff_mem, he, hy]; exact List.getElem_mem hkl
          rw [this, decide_eq_true_eq]; omega)
        clear he hy
        go_wp2_with fail
        go_ret
        exact ⟨k, rfl, HR.out, HN.out.2⟩
      · have ht : (x == y) = false := by simpa using he
        have HS : Hid (∀ j, (hj : j < k + 1) → (hl : j < l.length) → l[j] ≠ x) := Lib.hid (fun j hj hl => by
          by_cases e : j = k
          · subst e; rw [← hy]; exact fun h => he h.symm
          · exact HN.out.1 j (by omega) hl)
        clear he hy
        go_wp2_with fail
        go_roundw
        case rel => exact ⟨k + 1, by omega, by go_num, HS.out, HN.out.2⟩
        case measure => simp [intOf]; omega
    · have hkl' : ¬ (k : Int) < (l.length : Int) := by omega
      have HR : Hid (decide (0 ≤ (-1 : Int)) = l.contains x) := Lib.hid (by
        have : l.contains x = false := by
          cases hc : l.contains x with
          | false => rfl
          | true =>
            rw [List.contains_iff_mem] at hc
            obtain ⟨j, hj, e⟩ := List.getElem_of_mem hc
            exact absurd e (HN.out.1 j (by omega) hj)
        rw [this]; decide)
      clear X
      go_wp2_with fail
      go_ret
      exact ⟨-1, rfl, HR.out, HN.out.2⟩
set_option maxRecDepth 100000 in
theorem contains_any (w : World) (v : Value) (l : List Int) (h : IntsAt w v l) (x : Int) :
    Calls Try.prog 91 #[v, .int .i64 x] w (FPost (l.contains x) w) := by
  have HV := Lib.hid h
  clear h
  go_enter Try.func91, Try.ntmps91
  go_wp2_with fail
  refine (index_any _ v l HV.out x).mono ?_
  rintro e w1 ⟨r, rfl, hr, x1⟩
  have HR := Lib.hid (And.intro hr x1)
  clear hr
  go_wp2_with fail
  go_ret
  exact ⟨ret_bool (by rw [← HR.out.1]), x1⟩
end Go.Proofs.Ythmkcgiiakinmaa
