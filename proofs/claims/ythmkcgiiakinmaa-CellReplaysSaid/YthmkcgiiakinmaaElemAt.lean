/-
  The contracts of elem's functions over words. No condition.
-/
import Derived.Test.YthmkcgiiakinmaaBaseA
import Derived.Test.YthmkcgiiakinmaaRelBits
namespace Go.Ren
set_option linter.unusedVariables false
def szK (k : Int) : Nat := if k = 1 ∨ k = 2 then 1 else if k = 3 ∨ k = 4 then 2 else if k = 5 ∨ k = 6 then 4 else if k = 7 ∨ k = 8 then 8 else 0
theorem szK_five (k : Int) : szK k = 0 ∨ szK k = 1 ∨ szK k = 2 ∨ szK k = 4 ∨ szK k = 8 := by unfold szK; split <;> (try split) <;> (try split) <;> (try split) <;> simp
theorem szK_le (k : Int) : szK k ≤ 8 := by have := szK_five k; omega
theorem szK_zero (k : Int) : szK k = 0 ↔ (k < 1 ∨ 8 < k) := by unfold szK; split <;> (try split) <;> (try split) <;> (try split) <;> simp <;> omega
/-- A word's bits that a kind keeps. -/
def cutK (k : Int) (m : Nat) : Nat := m % 2 ^ (8 * szK k)
theorem cutK_le (k : Int) (m : Nat) : cutK k m ≤ m := Nat.mod_le _ _
theorem bits_and64 {m k : Nat} (hm : m < 18446744073709551616) (hk : k < 18446744073709551616) : bits .and .u64 (m : Int) (k : Int) = ((m &&& k : Nat) : Int) := by
  simp [bits]
  rw [bits64, show (2 : Nat) ^ 64 = 18446744073709551616 from rfl, Nat.mod_eq_of_lt hm, Nat.mod_eq_of_lt hk]
  exact u64_wrap_nat (Nat.lt_of_le_of_lt Nat.and_le_left hm)
theorem bits_xor64 {m k : Nat} (hm : m < 18446744073709551616) (hk : k < 18446744073709551616) : bits .xor .u64 (m : Int) (k : Int) = ((m ^^^ k : Nat) : Int) := by
  simp [bits]
  rw [bits64, show (2 : Nat) ^ 64 = 18446744073709551616 from rfl, Nat.mod_eq_of_lt hm, Nat.mod_eq_of_lt hk]
  exact u64_wrap_nat (Nat.xor_lt_two_pow (n := 64) hm hk)
theorem bits_cut {m : Nat} (hm : m < 18446744073709551616) (n : Nat) (hn : n < 64) : bits .and .u64 (m : Int) ((2 ^ n - 1 : Nat) : Int) = ((m % 2 ^ n : Nat) : Int) := by
  have hp := pow_lt64 hn
  rw [bits_and64 hm (by omega), Nat.and_two_pow_sub_one_eq_mod]
/-- What Change makes. -/
def changeK (k o : Int) (a b : Nat) : Nat × Bool :=
  if szK k = 0 then (0, false)
  else if o = 1 then (cutK k ((a + b) % 18446744073709551616), true)
  else if o = 2 then (cutK k (a &&& b), true)
  else if o = 3 then (cutK k (a ||| b), true)
  else if o = 4 then (cutK k ((a + (18446744073709551616 - b)) % 18446744073709551616), true)
  else if o = 5 then (cutK k (a ^^^ b), true)
  else if o = 6 then (cutK k b, true)
  else (0, false)
/-- A word's bytes. -/
def bytesN (n m : Nat) : List UInt8 := (List.range n).map fun i => UInt8.ofNat (m >>> (8 * i))
theorem bytesN_succ (n m : Nat) : bytesN (n + 1) m = bytesN n m ++ [UInt8.ofNat (m >>> (8 * n))] := by simp [bytesN, List.range_succ]
theorem bytesN_len (n m : Nat) : (bytesN n m).length = n := by simp [bytesN]
/-- The word of the first k bytes. -/
def wordP (l : List UInt8) : Nat → Nat
  | 0 => 0
  | k + 1 => wordP l k ||| (((l[k]?).getD 0).toNat <<< (8 * k))
theorem wordP_lt (l : List UInt8) : ∀ k, k ≤ 8 → wordP l k < 2 ^ (8 * k)
  | 0, _ => by simp [wordP]
  | k + 1, h => by
    have ih := wordP_lt l k (by omega)
    unfold wordP
    refine Nat.or_lt_two_pow (Nat.lt_of_lt_of_le ih (Nat.pow_le_pow_right (by decide) (by omega))) ?_
    have hx : ((l[k]?).getD 0).toNat < 2 ^ 8 := UInt8.toNat_lt _
    rw [Nat.shiftLeft_eq, Nat.mul_add, Nat.mul_one, Nat.add_comm, Nat.pow_add]
    exact Nat.mul_lt_mul_of_pos_right hx (Nat.two_pow_pos _)
def wordK (k : Int) (l : List UInt8) : Nat × Bool := if szK k = 0 ∨ l.length ≠ szK k then (0, false) else (wordP l l.length, true)
end Go.Ren
namespace Go.Proofs.Ythmkcgiiakinmaa
open Go.Ren Go.RowKit
set_option linter.unusedVariables false
set_option maxRecDepth 100000 in
theorem size_any (w : World) (k : Int) : Calls Try.prog 107 #[.int .i64 k] w fun e w' => e = .returned (.int .i64 (szK k : Int)) ∧ w' = w := by
  by_cases hk : 1 ≤ k ∧ k ≤ 8
  · rcases (by omega : k = 1 ∨ k = 2 ∨ k = 3 ∨ k = 4 ∨ k = 5 ∨ k = 6 ∨ k = 7 ∨ k = 8) with rfl | rfl | rfl | rfl | rfl | rfl | rfl | rfl
    all_goals
      go_enter Try.func107, Try.ntmps107
      go_wp2
      go_ret
      exact ⟨rfl, rfl⟩
  · have h0 : Hid (szK k = 0) := Lib.hid ((szK_zero k).2 (by omega))
    have a1 : (k == 1) = false := by simp; omega
    have a2 : (k == 2) = false := by simp; omega
    have a3 : (k == 3) = false := by simp; omega
    have a4 : (k == 4) = false := by simp; omega
    have a5 : (k == 5) = false := by simp; omega
    have a6 : (k == 6) = false := by simp; omega
    have a7 : (k == 7) = false := by simp; omega
    have a8 : (k == 8) = false := by simp; omega
    clear hk
    go_enter Try.func107, Try.ntmps107
    go_wp2
    go_ret
    rw [h0.out]
    exact ⟨rfl, rfl⟩
set_option maxRecDepth 100000 in
theorem cut_any (w : World) (k : Int) (m : Nat) (hm : m < 18446744073709551616) : Calls Try.prog 108 #[.int .i64 k, .int .u64 (m : Int)] w fun e w' => e = .returned (.int .u64 (cutK k m : Int)) ∧ w' = w := by
  have HM := Lib.hid hm
  obtain ⟨s, hs⟩ : ∃ s, s = szK k := ⟨_, rfl⟩
  have HC : Hid (cutK k m = m % 2 ^ (8 * s)) := Lib.hid (by rw [hs]; rfl)
  have HS := Lib.hid hs
  have h5 := szK_five k
  rw [← hs] at h5
  clear hs hm
  rcases h5 with rfl | rfl | rfl | rfl | rfl
  case inr.inr.inr.inr =>
    go_enter Try.func108, Try.ntmps108
    go_wp2_with fail
    refine (size_any _ k).mono ?_
    rintro e w1 ⟨rfl, rfl⟩
    rw [← HS.out]
    go_wp2_with fail
    go_ret
    rw [HC.out, Nat.mod_eq_of_lt HM.out]
    exact ⟨rfl, rfl⟩
  all_goals
    go_enter Try.func108, Try.ntmps108
    go_wp2_with fail
    refine (size_any _ k).mono ?_
    rintro e w1 ⟨rfl, rfl⟩
    rw [← HS.out]
    go_wp2_with fail
    go_ret
    rw [HC.out]
    first
      | exact ⟨congrArg (fun z => Ending.returned (.int .u64 z)) (bits_cut HM.out 0 (by decide)), rfl⟩
      | exact ⟨congrArg (fun z => Ending.returned (.int .u64 z)) (bits_cut HM.out 8 (by decide)), rfl⟩
      | exact ⟨congrArg (fun z => Ending.returned (.int .u64 z)) (bits_cut HM.out 16 (by decide)), rfl⟩
      | exact ⟨congrArg (fun z => Ending.returned (.int .u64 z)) (bits_cut HM.out 32 (by decide)), rfl⟩
def ChangePost (r : Nat × Bool) (w : World) (e : Ending) (w' : World) : Prop := e = .returned (.tuple #[.int .u64 (r.1 : Int), .bool r.2]) ∧ w' = w
theorem wrap_sub {a b : Nat} (ha : a < 18446744073709551616) (hb : b < 18446744073709551616) : IntKind.u64.wrap ((a : Int) - (b : Int)) = (((a + (18446744073709551616 - b)) % 18446744073709551616 : Nat) : Int) := by rw [IntKind.wrap_u64]; omega
theorem wrap_add {a b : Nat} (ha : a < 18446744073709551616) (hb : b < 18446744073709551616) : IntKind.u64.wrap ((a : Int) + (b : Int)) = (((a + b) % 18446744073709551616 : Nat) : Int) := by rw [IntKind.wrap_u64]; omega
set_option maxRecDepth 100000 in
theorem change_any (w : World) (k o : Int) (a b : Nat) (ha : a < 18446744073709551616) (hb : b < 18446744073709551616) : Calls Try.prog 98 #[.int .i64 k, .int .i64 o, .int .u64 (a : Int), .int .u64 (b : Int)] w (ChangePost (changeK k o a b) w) := by
  have HA := Lib.hid ha
  have HB := Lib.hid hb
  clear ha hb
  by_cases hz : szK k = 0
  · have HC : Hid (changeK k o a b = (0, false)) := Lib.hid (by unfold changeK; rw [if_pos hz])
    have HZ := Lib.hid hz
    clear hz
    go_enter Try.func98, Try.ntmps98
    go_wp2_with fail
    refine (size_any _ k).mono ?_
    rintro e w1 ⟨rfl, rfl⟩
    rw [HZ.out]
    go_wp2_with fail
    refine bodyPost_ret (results_tmp2 rfl _ _ _) rfl ?_
    rw [HC.out]
    exact ⟨rfl, rfl⟩
  · have hz' : (((szK k : Nat) : Int) == 0) = false := by simpa using hz
    by_cases ho : 1 ≤ o ∧ o ≤ 6
    · rcases (by omega : o = 1 ∨ o = 2 ∨ o = 3 ∨ o = 4 ∨ o = 5 ∨ o = 6) with rfl | rfl | rfl | rfl | rfl | rfl
      case inl =>
        have HC : Hid (changeK k 1 a b = (cutK k ((a + b) % 18446744073709551616), true)) := Lib.hid (by unfold changeK; rw [if_neg hz]; rfl)
        have wr := wrap_add HA.out HB.out
        clear hz ho
        go_enter Try.func98, Try.ntmps98
        go_wp2_with fail
        refine (size_any _ k).mono ?_
        rintro e w1 ⟨rfl, rfl⟩
        go_wp2_with fail
        refine (cut_any _ k _ (Nat.mod_lt _ (by decide))).mono ?_
        rintro e w1 ⟨rfl, rfl⟩
        go_wp2_with fail
        refine bodyPost_ret (results_tmp2 rfl _ _ _) rfl ?_
        rw [HC.out]
        exact ⟨rfl, rfl⟩
      case inr.inl =>
        have HC : Hid (changeK k 2 a b = (cutK k (a &&& b), true)) := Lib.hid (by unfold changeK; rw [if_neg hz]; rfl)
        have wr := bits_and64 HA.out HB.out
        clear hz ho
        go_enter Try.func98, Try.ntmps98
        go_wp2_with fail
        refine (size_any _ k).mono ?_
        rintro e w1 ⟨rfl, rfl⟩
        go_wp2_with fail
        refine (cut_any _ k _ (Nat.lt_of_le_of_lt Nat.and_le_left HA.out)).mono ?_
        rintro e w1 ⟨rfl, rfl⟩
        go_wp2_with fail
        refine bodyPost_ret (results_tmp2 rfl _ _ _) rfl ?_
        rw [HC.out]
        exact ⟨rfl, rfl⟩
      case inr.inr.inl =>
        have HC : Hid (changeK k 3 a b = (cutK k (a ||| b), true)) := Lib.hid (by unfold changeK; rw [if_neg hz]; rfl)
        have wr := bits_or64 HA.out HB.out
        clear hz ho
        go_enter Try.func98, Try.ntmps98
        go_wp2_with fail
        refine (size_any _ k).mono ?_
        rintro e w1 ⟨rfl, rfl⟩
        go_wp2_with fail
        refine (cut_any _ k _ (or_lt64 HA.out HB.out)).mono ?_
        rintro e w1 ⟨rfl, rfl⟩
        go_wp2_with fail
        refine bodyPost_ret (results_tmp2 rfl _ _ _) rfl ?_
        rw [HC.out]
        exact ⟨rfl, rfl⟩
      case inr.inr.inr.inl =>
        have HC : Hid (changeK k 4 a b = (cutK k ((a + (18446744073709551616 - b)) % 18446744073709551616), true)) := Lib.hid (by unfold changeK; rw [if_neg hz]; rfl)
        have wr := wrap_sub HA.out HB.out
        clear hz ho
        go_enter Try.func98, Try.ntmps98
        go_wp2_with fail
        refine (size_any _ k).mono ?_
        rintro e w1 ⟨rfl, rfl⟩
        go_wp2_with fail
        refine (cut_any _ k _ (Nat.mod_lt _ (by decide))).mono ?_
        rintro e w1 ⟨rfl, rfl⟩
        go_wp2_with fail
        refine bodyPost_ret (results_tmp2 rfl _ _ _) rfl ?_
        rw [HC.out]
        exact ⟨rfl, rfl⟩
      case inr.inr.inr.inr.inl =>
        have HC : Hid (changeK k 5 a b = (cutK k (a ^^^ b), true)) := Lib.hid (by unfold changeK; rw [if_neg hz]; rfl)
        have wr := bits_xor64 HA.out HB.out
        clear hz ho
        go_enter Try.func98, Try.ntmps98
        go_wp2_with fail
        refine (size_any _ k).mono ?_
        rintro e w1 ⟨rfl, rfl⟩
        go_wp2_with fail
        refine (cut_any _ k _ (Nat.xor_lt_two_pow (n := 64) HA.out HB.out)).mono ?_
        rintro e w1 ⟨rfl, rfl⟩
        go_wp2_with fail
        refine bodyPost_ret (results_tmp2 rfl _ _ _) rfl ?_
        rw [HC.out]
        exact ⟨rfl, rfl⟩
      case inr.inr.inr.inr.inr =>
        have HC : Hid (changeK k 6 a b = (cutK k b, true)) := Lib.hid (by unfold changeK; rw [if_neg hz]; rfl)
        clear hz ho
        go_enter Try.func98, Try.ntmps98
        go_wp2_with fail
        refine (size_any _ k).mono ?_
        rintro e w1 ⟨rfl, rfl⟩
        go_wp2_with fail
        refine (cut_any _ k _ HB.out).mono ?_
        rintro e w1 ⟨rfl, rfl⟩
        go_wp2_with fail
        refine bodyPost_ret (results_tmp2 rfl _ _ _) rfl ?_
        rw [HC.out]
        exact ⟨rfl, rfl⟩
    · have HC : Hid (changeK k o a b = (0, false)) := Lib.hid (by
        unfold changeK
        rw [if_neg hz, if_neg (by omega), if_neg (by omega), if_neg (by omega), if_neg (by omega), if_neg (by omega), if_neg (by omega)])
      have a1 : (o == 1) = false := by simp; omega
      have a2 : (o == 2) = false := by simp; omega
      have a3 : (o == 3) = false := by simp; omega
      have a4 : (o == 4) = false := by simp; omega
      have a5 : (o == 5) = false := by simp; omega
      have a6 : (o == 6) = false := by simp; omega
      clear hz ho
      go_enter Try.func98, Try.ntmps98
      go_wp2_with fail
      refine (size_any _ k).mono ?_
      rintro e w1 ⟨rfl, rfl⟩
      go_wp2_with fail
      refine bodyPost_ret (results_tmp2 rfl _ _ _) rfl ?_
      rw [HC.out]
      exact ⟨rfl, rfl⟩
end Go.Proofs.Ythmkcgiiakinmaa
