/-
  What rel.From builds, step by step: plain laws. No condition.
-/
import Derived.Test.YtkibdabbjbcboaaRelLoop
namespace Go.Ren
set_option linter.unusedVariables false
def fromP (L : Lg) (b k : Nat) (x y : Nat) : Bool := (decide (y < b) && fromB L x y) || (decide (y = b) && ((evn L.ev b).fr.take k).contains (x : Int))
theorem fromP_zero (L : Lg) (b x y : Nat) : fromP L b 0 x y = (decide (y < b) && fromB L x y) := by simp [fromP]
theorem fromP_all {L : Lg} {b k : Nat} (hk : k = (evn L.ev b).fr.length) (x y : Nat) : fromP L b k x y = (decide (y < b + 1) && fromB L x y) := by
  subst hk
  unfold fromP
  rw [List.take_length]
  by_cases e : y = b
  · subst e; simp [fromB]
  · rw [Bool.eq_iff_iff]; simp [e]; intro _; omega
theorem fromP_neg {L : Lg} {b k : Nat} (hk : k < (evn L.ev b).fr.length) (h : (evn L.ev b).fr[k] = -1) (x y : Nat) : fromP L b k x y = fromP L b (k + 1) x y := by
  unfold fromP
  rw [List.take_succ_eq_append_getElem hk, h]
  congr 2
  rw [Bool.eq_iff_iff]
  simp only [List.contains_iff_mem, List.mem_append, List.mem_singleton]
  constructor
  · exact .inl
  · rintro (h1 | h1)
    · exact h1
    · omega
theorem fromP_put {L : Lg} {b k a : Nat} (hk : k < (evn L.ev b).fr.length) (h : (evn L.ev b).fr[k] = (a : Int)) (x y : Nat) : putR (fromP L b k) a b x y = fromP L b (k + 1) x y := by
  unfold fromP putR
  rw [List.take_succ_eq_append_getElem hk, h, Bool.eq_iff_iff]
  simp only [Bool.or_eq_true, Bool.and_eq_true, decide_eq_true_eq, List.contains_iff_mem, List.mem_append, List.mem_singleton, Int.ofNat_inj]
  constructor
  · rintro ((h1 | ⟨h1, h2⟩) | ⟨h1, h2⟩)
    · exact .inl h1
    · exact .inr ⟨h1, .inl h2⟩
    · exact .inr ⟨h2, .inr h1⟩
  · rintro (h1 | ⟨h1, h2 | h2⟩)
    · exact .inl (.inl h1)
    · exact .inl (.inr ⟨h1, h2⟩)
    · exact .inr ⟨h2, h1⟩
end Go.Ren
