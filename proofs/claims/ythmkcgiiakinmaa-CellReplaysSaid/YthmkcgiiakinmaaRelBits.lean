/-
  Words of 64 bits: what the program's operations on them give. Over any program. No condition.
-/
import Derived.Test.YthmkcgiiakinmaaLib
namespace Go.Ren
open Go.RowKit
set_option linter.unusedVariables false
theorem u64_wrap_nat {m : Nat} (h : m < 18446744073709551616) : IntKind.u64.wrap (m : Int) = m := by
  rw [IntKind.wrap_u64]; omega
theorem or_lt64 {m k : Nat} (hm : m < 18446744073709551616) (hk : k < 18446744073709551616) : m ||| k < 18446744073709551616 := Nat.or_lt_two_pow (n := 64) hm hk
theorem pow_lt64 {b : Nat} (h : b < 64) : 2 ^ b < 18446744073709551616 := by
  have := Nat.pow_lt_pow_right (a := 2) (by decide) h
  simpa using this
theorem bits64 : IntKind.u64.bits = 64 := rfl
section
variable {P : Program}
theorem run_or64 (T : TypeId) {m k : Nat} (hm : m < 18446744073709551616) (hk : k < 18446744073709551616) (w : World) : (binOp .or T (.int .u64 (m : Int)) (.int .u64 (k : Int))).run P w = .ok (.int .u64 ((m ||| k : Nat) : Int)) w := by
  simp only [binOp, Op.intBits]
  simp
  rw [bits64, show (2 : Nat) ^ 64 = 18446744073709551616 from rfl, Nat.mod_eq_of_lt hm, Nat.mod_eq_of_lt hk]
  exact u64_wrap_nat (or_lt64 hm hk)
theorem run_shl64 (T : TypeId) {b : Nat} (hb : b < 64) (w : World) : (binOp .shl T (.int .u64 1) (.int .i64 (b : Int))).run P w = .ok (.int .u64 ((2 ^ b : Nat) : Int)) w := by
  simp only [binOp, Op.shift]
  have h0 : ¬ (b : Int) < 0 := by omega
  have hm : min b 64 = b := by omega
  simp [h0, bits64, hm]
  have := u64_wrap_nat (pow_lt64 hb)
  simpa using this
theorem run_shr64 (T : TypeId) {m b : Nat} (hb : b < 64) (w : World) : (binOp .shr T (.int .u64 (m : Int)) (.int .i64 (b : Int))).run P w = .ok (.int .u64 ((m >>> b : Nat) : Int)) w := by
  simp only [binOp, Op.shift]
  have h0 : ¬ (b : Int) < 0 := by omega
  have hm : min b 64 = b := by omega
  simp only [h0, if_false, bits64, Int.toNat_natCast, hm, Sem.run_pure]
  rw [Int.fdiv_eq_ediv_of_nonneg _ (by exact_mod_cast Nat.zero_le _), Nat.shiftRight_eq_div_pow]
  simp
theorem run_and1 (T : TypeId) {m : Nat} (hm : m < 18446744073709551616) (w : World) : (binOp .and T (.int .u64 (m : Int)) (.int .u64 1)).run P w = .ok (.int .u64 ((m % 2 : Nat) : Int)) w := by
  simp only [binOp, Op.intBits]
  simp
  rw [bits64, show (2 : Nat) ^ 64 = 18446744073709551616 from rfl, Nat.mod_eq_of_lt hm]
  have e : m &&& 1 % 18446744073709551616 = m % 2 := Nat.and_one_is_mod m
  rw [e]
  have := u64_wrap_nat (m := m % 2) (by omega)
  simpa using this
end
theorem shr_lt64 {m b : Nat} (hm : m < 18446744073709551616) : m >>> b < 18446744073709551616 := Nat.lt_of_le_of_lt (Nat.shiftRight_le m b) hm
theorem bit_of (m b : Nat) : (((m >>> b % 2 : Nat) : Int) == 1) = m.testBit b := by
  rw [Nat.testBit_eq_decide_div_mod_eq, Bool.eq_iff_iff, Nat.shiftRight_eq_div_pow]
  simp only [beq_iff_eq, decide_eq_true_eq]
  omega
theorem bits_and1 {m : Nat} (hm : m < 18446744073709551616) : bits .and .u64 (m : Int) 1 = ((m % 2 : Nat) : Int) := by
  simp [bits]
  rw [bits64, show (2 : Nat) ^ 64 = 18446744073709551616 from rfl, Nat.mod_eq_of_lt hm]
  have e : m &&& 1 % 18446744073709551616 = m % 2 := Nat.and_one_is_mod m
  rw [e]
  have := u64_wrap_nat (m := m % 2) (by omega)
  simpa using this
theorem bits_or64 {m k : Nat} (hm : m < 18446744073709551616) (hk : k < 18446744073709551616) : bits .or .u64 (m : Int) (k : Int) = ((m ||| k : Nat) : Int) := by
  simp [bits]
  rw [bits64, show (2 : Nat) ^ 64 = 18446744073709551616 from rfl, Nat.mod_eq_of_lt hm, Nat.mod_eq_of_lt hk]
  exact u64_wrap_nat (or_lt64 hm hk)
theorem div_shr (m b : Nat) : (m : Int) / 2 ^ b = ((m >>> b : Nat) : Int) := by
  rw [Nat.shiftRight_eq_div_pow]; simp
theorem bits_bit {m : Nat} (hm : m < 18446744073709551616) (b : Nat) : (bits .and .u64 ((m : Int) / 2 ^ b) 1 == 1) = m.testBit b := by
  rw [div_shr, bits_and1 (shr_lt64 hm)]; exact bit_of m b
theorem testBit_put (m b j : Nat) : (m ||| 2 ^ b).testBit j = (m.testBit j || decide (b = j)) := by
  rw [Nat.testBit_or, Nat.testBit_two_pow]
end Go.Ren
