/-
  The plain law of renlaw14.EventTells. No condition, no program.
-/
import Derived.Test.YtkibdabbjbcboaaEvLaw
namespace Go.Ren
set_option linter.unusedVariables false
/-- Has one of the first i bytes met one of s bytes, d behind? -/
def metB (d s : Int) (i : Nat) : Bool := (List.range i).any fun j => decide (0 ≤ d + (j : Int) ∧ d + (j : Int) < s)
theorem metB_succ (d s : Int) (i : Nat) : metB d s (i + 1) = (metB d s i || decide (0 ≤ d + (i : Int) ∧ d + (i : Int) < s)) := by
  unfold metB; rw [List.range_succ, List.any_append]; simp
theorem metB_iff {d s : Int} {i : Nat} : metB d s i = true ↔ ∃ j : Nat, j < i ∧ 0 ≤ d + (j : Int) ∧ d + (j : Int) < s := by
  unfold metB; simp [List.any_eq_true]
theorem tells_over {a b : Ev} : evOver a b = (decide (a.kind ≠ 0 ∧ b.kind ≠ 0 ∧ a.blk = b.blk) && metB (a.at_ - b.at_) b.size a.size.toNat) := by
  rw [Bool.eq_iff_iff]
  unfold evOver withB
  simp only [Bool.and_eq_true, Bool.or_eq_true, decide_eq_true_eq, metB_iff]
  constructor
  · rintro ⟨⟨h1, h2, h3, h4, h5⟩, h | h⟩
    · exact ⟨⟨h1, h2, h3⟩, 0, by omega, by omega, by omega⟩
    · exact ⟨⟨h1, h2, h3⟩, (b.at_ - a.at_).toNat, by omega, by omega, by omega⟩
  · rintro ⟨⟨h1, h2, h3⟩, j, h4, h5, h6⟩
    refine ⟨⟨h1, h2, h3, by omega, by omega⟩, ?_⟩
    by_cases h : b.at_ ≤ a.at_
    · left; omega
    · right; omega
theorem tells_eq {a b : Ev} : evEq a b = (decide (a.kind ≠ 0 ∧ b.kind ≠ 0 ∧ a.blk = b.blk) && decide (a.at_ = b.at_) && decide (a.size = b.size)) := by
  rw [Bool.eq_iff_iff]; unfold evEq; simp only [Bool.and_eq_true, decide_eq_true_eq]
  constructor
  · rintro ⟨h1, h2, h3, h4, h5⟩; exact ⟨⟨⟨h1, h2, h3⟩, h4⟩, h5⟩
  · rintro ⟨⟨⟨h1, h2, h3⟩, h4⟩, h5⟩; exact ⟨h1, h2, h3, h4, h5⟩
end Go.Ren
