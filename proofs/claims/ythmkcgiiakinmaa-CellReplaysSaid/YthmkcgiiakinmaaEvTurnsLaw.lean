/-
  The plain law of renlaw14.EventTurns. No condition, no program.
-/
import Derived.Test.YthmkcgiiakinmaaEvLaw
namespace Go.Ren
set_option linter.unusedVariables false
theorem evOver_iff {a b : Ev} : evOver a b = true ↔ (a.kind ≠ 0 ∧ b.kind ≠ 0 ∧ a.blk = b.blk ∧ 1 ≤ a.size ∧ 1 ≤ b.size) ∧ ((b.at_ ≤ a.at_ ∧ a.at_ - b.at_ < b.size) ∨ (a.at_ ≤ b.at_ ∧ b.at_ - a.at_ < a.size)) := by
  unfold evOver withB; simp only [Bool.and_eq_true, Bool.or_eq_true, decide_eq_true_eq]
theorem evEq_iff {a b : Ev} : evEq a b = true ↔ a.kind ≠ 0 ∧ b.kind ≠ 0 ∧ a.blk = b.blk ∧ a.at_ = b.at_ ∧ a.size = b.size := by
  unfold evEq; simp only [decide_eq_true_eq]
theorem evOver_comm (a b : Ev) : evOver b a = evOver a b := by
  rw [Bool.eq_iff_iff, evOver_iff, evOver_iff]
  constructor <;> rintro ⟨⟨h1, h2, h3, h4, h5⟩, h⟩ <;> exact ⟨⟨h2, h1, h3.symm, h5, h4⟩, h.symm⟩
theorem evEq_comm (a b : Ev) : evEq b a = evEq a b := by
  rw [Bool.eq_iff_iff, evEq_iff, evEq_iff]
  constructor <;> rintro ⟨h1, h2, h3, h4, h5⟩ <;> exact ⟨h2, h1, h3.symm, h4.symm, h5.symm⟩
theorem turns_law (a b : Ev) : (evEq a b = true ∧ 0 < a.size ∧ evOver a b = true ∧ a.blk = b.blk ∧ a.kind ≠ 0) ∨ (evEq a b = true ∧ a.size ≤ 0 ∧ evOver a b = false ∧ a.kind ≠ 0) ∨ (evEq a b = false ∧ evOver a b = true ∧ a.blk = b.blk ∧ 1 ≤ a.size ∧ a.kind ≠ 0) ∨ (evEq a b = false ∧ evOver a b = false ∧ a.kind ≠ 0) ∨ (evEq a b = false ∧ evOver a b = false ∧ a.kind = 0 ∧ rdsB a = false ∧ wrsB a = false) := by
  cases hE : evEq a b with
  | true =>
    have h := evEq_iff.1 hE
    obtain ⟨h1, h2, h3, h4, h5⟩ := h
    by_cases hs : 0 < a.size
    · exact .inl ⟨rfl, hs, evOver_iff.2 ⟨⟨h1, h2, h3, by omega, by omega⟩, by omega⟩, h3, h1⟩
    · refine .inr (.inl ⟨rfl, by omega, ?_, h1⟩)
      cases hO : evOver a b with
      | false => rfl
      | true => have := (evOver_iff.1 hO).1.2.2.2.1; omega
  | false =>
    cases hO : evOver a b with
    | true =>
      obtain ⟨⟨h1, h2, h3, h4, h5⟩, h⟩ := evOver_iff.1 hO
      exact .inr (.inr (.inl ⟨rfl, rfl, h3, h4, h1⟩))
    | false =>
      by_cases hk : a.kind = 0
      · exact .inr (.inr (.inr (.inr ⟨rfl, rfl, hk, by simp [rdsB, hk], by simp [wrsB, hk]⟩)))
      · exact .inr (.inr (.inr (.inl ⟨rfl, rfl, hk⟩)))
end Go.Ren
