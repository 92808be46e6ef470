/-
  What the calls of package event compute, on plain lists. No condition, no program. The plain law of renlaw14.EventTurns. No condition, no program. Words of 64 bits: what the program's operations on them give. Over any program. No condition.
-/
import Derived.Test.YthmkcgiiakinmaaJLib
namespace Go.Ren
set_option linter.unusedVariables false

structure Ev where
  ag : Int
  kind : Int
  seq : Bool
  nt : Bool
  blk : Int
  at_ : Int
  size : Int
  rd : List UInt8
  wr : List UInt8
  fr : List Int
structure Lg where
  ev : List Ev
  pr : List (Int × Int)
def ev0 : Ev := ⟨0, 0, false, false, 0, 0, 0, [], [], []⟩
def evn (L : List Ev) (i : Nat) : Ev := L.getD i ev0
theorem evn_eq {L : List Ev} {i : Nat} (h : i < L.length) : evn L i = L[i] := by simp [evn, h]
structure EvI (e : Ev) : Prop where
  ag : I64 e.ag
  kind : I64 e.kind
  blk : I64 e.blk
  at_ : I64 e.at_
  size : I64 e.size
  fr : ∀ x ∈ e.fr, I64 x

def rdsB (e : Ev) : Bool := decide (e.kind = 1 ∨ e.kind = 3)
def wrsB (e : Ev) : Bool := decide (e.kind = 2 ∨ e.kind = 3)
def evEq (a b : Ev) : Bool := decide (a.kind ≠ 0 ∧ b.kind ≠ 0 ∧ a.blk = b.blk ∧ a.at_ = b.at_ ∧ a.size = b.size)
def withB (a f s : Int) : Bool := decide (f ≤ a ∧ a - f < s)
def evOver (a b : Ev) : Bool := decide (a.kind ≠ 0 ∧ b.kind ≠ 0 ∧ a.blk = b.blk ∧ 1 ≤ a.size ∧ 1 ≤ b.size) && (withB a.at_ b.at_ b.size || withB b.at_ a.at_ a.size)
def evCov (e : Ev) (b a : Int) : Bool := decide (e.kind ≠ 0 ∧ e.blk = b) && withB a e.at_ e.size
def evFields (e : Ev) : Bool :=
  if e.kind = 0 then !e.seq && !e.nt && decide (e.blk = 0 ∧ e.at_ = 0 ∧ e.size = 0) && e.rd.isEmpty && e.wr.isEmpty && e.fr.isEmpty
  else decide (e.kind = 1 ∨ e.kind = 2 ∨ e.kind = 3) && (decide (e.kind ≠ 3) || e.seq && e.nt) && decide (0 ≤ e.blk ∧ e.blk < 16 ∧ 1 ≤ e.size ∧ e.size ≤ 8 ∧ 0 ≤ e.at_ ∧ e.at_ ≤ 256 - e.size) &&
    decide ((e.rd.length : Int) = (if rdsB e then e.size else 0) ∧ (e.fr.length : Int) = (if rdsB e then e.size else 0) ∧ (e.wr.length : Int) = (if wrsB e then e.size else 0))
/-- Does byte i of event n read what was written? -/
def evRead1 (L : List Ev) (n i : Nat) : Bool :=
  let w := (evn L n).fr.getD i 0
  let x := (evn L n).rd.getD i 0
  if w = -1 then decide (x = 0)
  else if w < 0 ∨ (n : Int) ≤ w then false
  else wrsB (evn L w.toNat) && evCov (evn L w.toNat) (evn L n).blk ((evn L n).at_ + i) && ((evn L w.toNat).wr.getD ((evn L n).at_ + i - (evn L w.toNat).at_).toNat 0 == x)
def evReads (L : List Ev) (n : Nat) : Bool := (List.range (evn L n).fr.length).all fun i => evRead1 L n i
def evOk1 (L : List Ev) (n : Nat) : Bool := decide (0 ≤ (evn L n).ag ∧ (evn L n).ag < 64) && evFields (evn L n) && evReads L n
def prOk (n : Nat) (p : Int × Int) : Bool := decide (0 ≤ p.1 ∧ p.1 < p.2 ∧ p.2 < (n : Int))
def mayL (L : Lg) : Bool := decide (L.ev.length ≤ 1000 ∧ L.pr.length ≤ 1000) && ((List.range L.ev.length).all fun n => evOk1 L.ev n) && L.pr.all (prOk L.ev.length)

def prn (l : List (Int × Int)) (i : Nat) : Int × Int := l.getD i (0, 0)
theorem prn_eq {l : List (Int × Int)} {i : Nat} (h : i < l.length) : prn l i = l[i] := by simp [prn, h]

theorem mayL_iff {L : Lg} : mayL L = true ↔ (L.ev.length ≤ 1000 ∧ L.pr.length ≤ 1000) ∧ (∀ n, n < L.ev.length → evOk1 L.ev n = true) ∧ ∀ i, i < L.pr.length → prOk L.ev.length (prn L.pr i) = true := by
  unfold mayL
  simp only [Bool.and_eq_true, decide_eq_true_eq, List.all_eq_true, List.mem_range, and_assoc]
  refine and_congr_right fun _ => and_congr_right fun _ => and_congr_right fun _ => ⟨fun h i hi => ?_, fun h p hp => ?_⟩
  · rw [prn_eq hi]; exact h _ (List.getElem_mem hi)
  · obtain ⟨i, hi, rfl⟩ := List.getElem_of_mem hp
    have := h i hi
    rwa [prn_eq hi] at this
theorem evOk1_fields {L : List Ev} {n : Nat} (h : evOk1 L n = true) : evFields (evn L n) = true := by
  unfold evOk1 at h
  simp only [Bool.and_eq_true] at h
  exact h.1.2
theorem evReads_iff {L : List Ev} {n : Nat} : evReads L n = true ↔ ∀ i, i < (evn L n).fr.length → evRead1 L n i = true := by
  unfold evReads
  simp only [List.all_eq_true, List.mem_range]
theorem evOk1_reads {L : List Ev} {n : Nat} (h : evOk1 L n = true) : ∀ i, i < (evn L n).fr.length → evRead1 L n i = true := by
  unfold evOk1 at h
  simp only [Bool.and_eq_true] at h
  exact evReads_iff.1 h.2

/-- What an event with its kind's fields has. -/
theorem evFields_sizes {e : Ev} (h : evFields e = true) : e.fr.length ≤ 8 ∧ e.rd.length = e.fr.length ∧ 0 ≤ e.at_ ∧ e.at_ ≤ 256 ∧ 0 ≤ e.size ∧ e.size ≤ 8 ∧ 0 ≤ e.blk ∧ e.blk < 16 ∧ (wrsB e = true → (e.wr.length : Int) = e.size) ∧ (wrsB e = false → e.wr = []) ∧ (rdsB e = true → (e.fr.length : Int) = e.size) ∧ (rdsB e = false → e.fr = []) ∧ 0 ≤ e.kind ∧ e.kind ≤ 3 ∧ e.at_ + e.size ≤ 256 ∧ (e.kind ≠ 0 → 1 ≤ e.size) := by
  unfold evFields at h
  split at h
  · rename_i hk
    simp only [Bool.and_eq_true, decide_eq_true_eq, List.isEmpty_iff] at h
    obtain ⟨⟨⟨⟨⟨_, _⟩, h1, h2, h3⟩, h4⟩, h5⟩, h6⟩ := h
    have hw : wrsB e = false := by unfold wrsB; simp [hk]
    have hr : rdsB e = false := by unfold rdsB; simp [hk]
    rw [h4, h5, h6, h1, h2, h3, hk, hw, hr]
    simp
  · rename_i hk
    simp only [Bool.and_eq_true, decide_eq_true_eq] at h
    obtain ⟨⟨⟨h1, _⟩, h2⟩, h3, h4, h5⟩ := h
    have hz : ∀ b : Bool, (if b = true then e.size else 0) ≤ 8 ∧ 0 ≤ (if b = true then e.size else 0) := fun b => by cases b <;> simp <;> omega
    have z1 := hz (rdsB e)
    refine ⟨by omega, by omega, by omega, by omega, by omega, by omega, by omega, by omega, fun hw => ?_, fun hw => ?_, fun hr => ?_, fun hr => ?_, by omega, by omega, by omega, fun _ => by omega⟩
    · rw [hw, if_pos rfl] at h5; exact h5
    · rw [hw, if_neg (by simp)] at h5; exact List.eq_nil_of_length_eq_zero (by omega)
    · rw [hr, if_pos rfl] at h4; exact h4
    · rw [hr, if_neg (by simp)] at h4; exact List.eq_nil_of_length_eq_zero (by omega)
end Go.Ren
namespace Go.Ren
set_option linter.unusedVariables false
theorem evOver_iff {a b : Ev} : evOver a b = true ↔ (a.kind ≠ 0 ∧ b.kind ≠ 0 ∧ a.blk = b.blk ∧ 1 ≤ a.size ∧ 1 ≤ b.size) ∧ ((b.at_ ≤ a.at_ ∧ a.at_ - b.at_ < b.size) ∨ (a.at_ ≤ b.at_ ∧ b.at_ - a.at_ < a.size)) := by
  unfold evOver withB; simp only [Bool.and_eq_true, Bool.or_eq_true, decide_eq_true_eq]
theorem evEq_iff {a b : Ev} : evEq a b = true ↔ a.kind ≠ 0 ∧ b.kind ≠ 0 ∧ a.blk = b.blk ∧ a.at_ = b.at_ ∧ a.size = b.size := by
  unfold evEq; simp only [decide_eq_true_eq]
theorem evOver_comm (a b : Ev) : evOver b a = evOver a b := by
  rw [Bool.eq_iff_iff, evOver_iff, evOver_iff]
  constructor <;> rintro ⟨⟨h1, h2, h3, h4, h5⟩, h⟩ <;> exact ⟨⟨h2, h1, h3.symm, h5, h4⟩, h.symm⟩
theorem evEq_comm (a b : Ev) : evEq b a = evEq a b := by
  rw [Bool.eq_iff_iff, evEq_iff, evEq_iff]
  constructor <;> rintro ⟨h1, h2, h3, h4, h5⟩ <;> exact ⟨h2, h1, h3.symm, h4.symm, h5.symm⟩
theorem turns_law (a b : Ev) : (evEq a b = true ∧ 0 < a.size ∧ evOver a b = true ∧ a.blk = b.blk ∧ a.kind ≠ 0) ∨ (evEq a b = true ∧ a.size ≤ 0 ∧ evOver a b = false ∧ a.kind ≠ 0) ∨ (evEq a b = false ∧ evOver a b = true ∧ a.blk = b.blk ∧ 1 ≤ a.size ∧ a.kind ≠ 0) ∨ (evEq a b = false ∧ evOver a b = false ∧ a.kind ≠ 0) ∨ (evEq a b = false ∧ evOver a b = false ∧ a.kind = 0 ∧ rdsB a = false ∧ wrsB a = false) := by
  cases hE : evEq a b with
  | true =>
    have h := evEq_iff.1 hE
    obtain ⟨h1, h2, h3, h4, h5⟩ := h
    by_cases hs : 0 < a.size
    · exact .inl ⟨rfl, hs, evOver_iff.2 ⟨⟨h1, h2, h3, by omega, by omega⟩, by omega⟩, h3, h1⟩
    · refine .inr (.inl ⟨rfl, by omega, ?_, h1⟩)
      cases hO : evOver a b with
      | false => rfl
      | true => have := (evOver_iff.1 hO).1.2.2.2.1; omega
  | false =>
    cases hO : evOver a b with
    | true =>
      obtain ⟨⟨h1, h2, h3, h4, h5⟩, h⟩ := evOver_iff.1 hO
      exact .inr (.inr (.inl ⟨rfl, rfl, h3, h4, h1⟩))
    | false =>
      by_cases hk : a.kind = 0
      · exact .inr (.inr (.inr (.inr ⟨rfl, rfl, hk, by simp [rdsB, hk], by simp [wrsB, hk]⟩)))
      · exact .inr (.inr (.inr (.inl ⟨rfl, rfl, hk⟩)))
end Go.Ren
namespace Go.Ren
open Go.RowKit
set_option linter.unusedVariables false
theorem u64_wrap_nat {m : Nat} (h : m < 18446744073709551616) : IntKind.u64.wrap (m : Int) = m := by
  rw [IntKind.wrap_u64]; omega
theorem or_lt64 {m k : Nat} (hm : m < 18446744073709551616) (hk : k < 18446744073709551616) : m ||| k < 18446744073709551616 := Nat.or_lt_two_pow (n := 64) hm hk
theorem pow_lt64 {b : Nat} (h : b < 64) : 2 ^ b < 18446744073709551616 := by
  have := Nat.pow_lt_pow_right (a := 2) (by decide) h
  simpa using this
theorem bits64 : IntKind.u64.bits = 64 := rfl
section
variable {P : Program}
theorem run_or64 (T : TypeId) {m k : Nat} (hm : m < 18446744073709551616) (hk : k < 18446744073709551616) (w : World) : (binOp .or T (.int .u64 (m : Int)) (.int .u64 (k : Int))).run P w = .ok (.int .u64 ((m ||| k : Nat) : Int)) w := by
  simp only [binOp, Op.intBits]
  simp
  rw [bits64, show (2 : Nat) ^ 64 = 18446744073709551616 from rfl, Nat.mod_eq_of_lt hm, Nat.mod_eq_of_lt hk]
  exact u64_wrap_nat (or_lt64 hm hk)
theorem run_shl64 (T : TypeId) {b : Nat} (hb : b < 64) (w : World) : (binOp .shl T (.int .u64 1) (.int .i64 (b : Int))).run P w = .ok (.int .u64 ((2 ^ b : Nat) : Int)) w := by
  simp only [binOp, Op.shift]
  have h0 : ¬ (b : Int) < 0 := by omega
  have hm : min b 64 = b := by omega
  simp [h0, bits64, hm]
  have := u64_wrap_nat (pow_lt64 hb)
  simpa using this
theorem run_shr64 (T : TypeId) {m b : Nat} (hb : b < 64) (w : World) : (binOp .shr T (.int .u64 (m : Int)) (.int .i64 (b : Int))).run P w = .ok (.int .u64 ((m >>> b : Nat) : Int)) w := by
  simp only [binOp, Op.shift]
  have h0 : ¬ (b : Int) < 0 := by omega
  have hm : min b 64 = b := by omega
  simp only [h0, if_false, bits64, Int.toNat_natCast, hm, Sem.run_pure]
  rw [Int.fdiv_eq_ediv_of_nonneg _ (by exact_mod_cast Nat.zero_le _), Nat.shiftRight_eq_div_pow]
  simp
theorem run_and1 (T : TypeId) {m : Nat} (hm : m < 18446744073709551616) (w : World) : (binOp .and T (.int .u64 (m : Int)) (.int .u64 1)).run P w = .ok (.int .u64 ((m % 2 : Nat) : Int)) w := by
  simp only [binOp, Op.intBits]
  simp
  rw [bits64, show (2 : Nat) ^ 64 = 18446744073709551616 from rfl, Nat.mod_eq_of_lt hm]
  have e : m &&& 1 % 18446744073709551616 = m % 2 := Nat.and_one_is_mod m
  rw [e]
  have := u64_wrap_nat (m := m % 2) (by omega)
  simpa using this
end
theorem shr_lt64 {m b : Nat} (hm : m < 18446744073709551616) : m >>> b < 18446744073709551616 := Nat.lt_of_le_of_lt (Nat.shiftRight_le m b) hm
theorem bit_of (m b : Nat) : (((m >>> b % 2 : Nat) : Int) == 1) = m.testBit b := by
  rw [Nat.testBit_eq_decide_div_mod_eq, Bool.eq_iff_iff, Nat.shiftRight_eq_div_pow]
  simp only [beq_iff_eq, decide_eq_true_eq]
  omega
theorem bits_and1 {m : Nat} (hm : m < 18446744073709551616) : bits .and .u64 (m : Int) 1 = ((m % 2 : Nat) : Int) := by
  simp [bits]
  rw [bits64, show (2 : Nat) ^ 64 = 18446744073709551616 from rfl, Nat.mod_eq_of_lt hm]
  have e : m &&& 1 % 18446744073709551616 = m % 2 := Nat.and_one_is_mod m
  rw [e]
  have := u64_wrap_nat (m := m % 2) (by omega)
  simpa using this
theorem bits_or64 {m k : Nat} (hm : m < 18446744073709551616) (hk : k < 18446744073709551616) : bits .or .u64 (m : Int) (k : Int) = ((m ||| k : Nat) : Int) := by
  simp [bits]
  rw [bits64, show (2 : Nat) ^ 64 = 18446744073709551616 from rfl, Nat.mod_eq_of_lt hm, Nat.mod_eq_of_lt hk]
  exact u64_wrap_nat (or_lt64 hm hk)
theorem div_shr (m b : Nat) : (m : Int) / 2 ^ b = ((m >>> b : Nat) : Int) := by
  rw [Nat.shiftRight_eq_div_pow]; simp
theorem bits_bit {m : Nat} (hm : m < 18446744073709551616) (b : Nat) : (bits .and .u64 ((m : Int) / 2 ^ b) 1 == 1) = m.testBit b := by
  rw [div_shr, bits_and1 (shr_lt64 hm)]; exact bit_of m b
theorem testBit_put (m b j : Nat) : (m ||| 2 ^ b).testBit j = (m.testBit j || decide (b = j)) := by
  rw [Nat.testBit_or, Nat.testBit_two_pow]
end Go.Ren
