/-
  Bytes as words: laws. No condition, no program.
-/
import Derived.Test.YthmkcgiiakinmaaLib
namespace Go.Ren
set_option linter.unusedVariables false
/-- The word of bytes, the least first. -/
def wordN : List UInt8 → Nat
  | [] => 0
  | b :: l => b.toNat + 256 * wordN l
theorem wordN_lt : ∀ l : List UInt8, wordN l < 2 ^ (8 * l.length)
  | [] => by simp [wordN]
  | b :: l => by
    have ih := wordN_lt l
    have hb := UInt8.toNat_lt b
    have e : 2 ^ (8 * (b :: l).length) = 256 * 2 ^ (8 * l.length) := by
      rw [List.length_cons, Nat.mul_add, Nat.mul_one, Nat.add_comm, Nat.pow_add]
    rw [e]
    unfold wordN
    omega
theorem wordN_inj : ∀ a b : List UInt8, a.length = b.length → wordN a = wordN b → a = b
  | [], [], _, _ => rfl
  | [], _ :: _, h, _ => by simp at h
  | _ :: _, [], h, _ => by simp at h
  | x :: a, y :: b, h, hw => by
    have hx := UInt8.toNat_lt x
    have hy := UInt8.toNat_lt y
    unfold wordN at hw
    have h1 : x.toNat = y.toNat := by omega
    have h2 : wordN a = wordN b := by omega
    have h3 : x = y := UInt8.toNat_inj.1 h1
    rw [h3, wordN_inj a b (by simpa using h) h2]
theorem wordN_drop {l : List UInt8} {k : Nat} (h : k < l.length) : wordN (l.drop k) = l[k].toNat + 256 * wordN (l.drop (k + 1)) := by
  rw [List.drop_eq_getElem_cons h]; rfl
end Go.Ren
