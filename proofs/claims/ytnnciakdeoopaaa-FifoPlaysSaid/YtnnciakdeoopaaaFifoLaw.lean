/-
  What the store buffers' calls compute, on plain lists. No condition, no program.
-/
import Derived.Test.YtnnciakdeoopaaaLib
namespace Go.Ren
set_option linter.unusedVariables false

/-- What was stored. -/
structure Ent where
  blk : Int
  at_ : Int
  b : List UInt8
  by_ : Int
  tears : Bool
def ent (E : List Ent) (i : Nat) : Ent := E.getD i ⟨0, 0, [], 0, false⟩
theorem ent_eq {E : List Ent} {i : Nat} (h : i < E.length) : ent E i = E[i] := by simp [ent, h]
theorem ent_snoc_lt {E : List Ent} {e : Ent} {i : Nat} (h : i < E.length) : ent (E ++ [e]) i = ent E i := by simp [ent, List.getElem?_append_left h]
theorem ent_snoc {E : List Ent} {e : Ent} : ent (E ++ [e]) E.length = e := by simp [ent]
/-- What every entry of a buffer meets. -/
structure EOk (e : Ent) : Prop where
  blk : 0 ≤ e.blk ∧ e.blk ≤ 9223372036854775807
  at_ : 0 ≤ e.at_ ∧ e.at_ + e.b.length ≤ 264
  by_ : 0 ≤ e.by_ ∧ e.by_ ≤ 9223372036854775807
  len : 1 ≤ e.b.length ∧ e.b.length ≤ 8

def qputE (room : Nat) (E : List Ent) (e : Ent) : Int :=
  if e.blk < 0 ∨ e.at_ < 0 ∨ e.by_ < 0 ∨ 256 < e.at_ ∨ e.b.length < 1 ∨ 8 < e.b.length then 1 else if room ≤ E.length then 11 else 0
def qput (room : Nat) (E : List Ent) (e : Ent) : List Ent := if qputE room E e = 0 then E ++ [e] else E
theorem qputE_0 {room : Nat} {E : List Ent} {e : Ent} (h : qputE room E e = 0) : 0 ≤ e.blk ∧ 0 ≤ e.at_ ∧ 0 ≤ e.by_ ∧ e.at_ ≤ 256 ∧ 1 ≤ e.b.length ∧ e.b.length ≤ 8 ∧ E.length < room := by
  unfold qputE at h
  split at h
  · omega
  · split at h
    · omega
    · omega

/-- What one entry lays over bytes, and over their writers. -/
def layB (at_ : Int) (x : List UInt8) (a : Int) (b : List UInt8) : List UInt8 := b.mapIdx fun j u => if at_ ≤ a + j then (x[(a + j - at_).toNat]?).getD u else u
def layY (at_ : Int) (n : Nat) (by_ : Int) (a : Int) (y : List Int) : List Int := y.mapIdx fun j u => if at_ ≤ a + j ∧ a + j < at_ + n then by_ else u
def overB (E : List Ent) (k a : Int) (b : List UInt8) : List UInt8 := E.foldl (fun b e => if e.blk = k then layB e.at_ e.b a b else b) b
def overY (E : List Ent) (k a : Int) (y : List Int) : List Int := E.foldl (fun y e => if e.blk = k then layY e.at_ e.b.length e.by_ a y else y) y
def qoverB (E : List Ent) (k a : Int) (b : List UInt8) (y : List Int) : List UInt8 := if b.length = y.length then overB E k a b else b
def qoverY (E : List Ent) (k a : Int) (b : List UInt8) (y : List Int) : List Int := if b.length = y.length then overY E k a y else y

theorem layB_len (at_ : Int) (x : List UInt8) (a : Int) (b : List UInt8) : (layB at_ x a b).length = b.length := by simp [layB]
theorem layY_len (at_ : Int) (n : Nat) (by_ a : Int) (y : List Int) : (layY at_ n by_ a y).length = y.length := by simp [layY]
theorem layB_nil (at_ : Int) (a : Int) (b : List UInt8) : layB at_ [] a b = b := by
  apply List.ext_getElem?
  intro j
  simp [layB, List.getElem?_mapIdx]
theorem layY_nil (at_ by_ : Int) (a : Int) (y : List Int) : layY at_ 0 by_ a y = y := by
  apply List.ext_getElem?
  intro j
  unfold layY
  rw [List.getElem?_mapIdx]
  cases y[j]? with
  | none => rfl
  | some u => rw [Option.map_some, if_neg (by omega)]
theorem layB_get {at_ : Int} {x : List UInt8} {a : Int} {b : List UInt8} {j : Nat} : (layB at_ x a b)[j]? = (b[j]?).map fun u => if at_ ≤ a + j then (x[(a + j - at_).toNat]?).getD u else u := by simp [layB]
theorem layY_get {at_ : Int} {n : Nat} {by_ a : Int} {y : List Int} {j : Nat} : (layY at_ n by_ a y)[j]? = (y[j]?).map fun u => if at_ ≤ a + j ∧ a + j < at_ + n then by_ else u := by simp [layY]
/-- A byte more, within. -/
theorem layB_in {at_ : Int} {x : List UInt8} {a : Int} {b : List UInt8} {k i : Nat} (hk : k < x.length) (hi : at_ + k - a = i) (hl : i < b.length) : layB at_ (x.take (k + 1)) a b = (layB at_ (x.take k) a b).set i x[k] := by
  apply List.ext_getElem?
  intro j
  rw [List.getElem?_set, layB_get, layB_get, layB_len]
  by_cases e : i = j
  · subst e
    rw [if_pos rfl, if_pos hl, List.getElem?_eq_getElem hl, Option.map_some, if_pos (by omega)]
    rw [show (a + (i : Int) - at_).toNat = k by omega, List.getElem?_take, if_pos (by omega), List.getElem?_eq_getElem hk]; rfl
  · rw [if_neg e]
    congr 1; funext u
    by_cases h : at_ ≤ a + j
    · rw [if_pos h, if_pos h]
      have hne : (a + (j : Int) - at_).toNat ≠ k := by omega
      rw [List.getElem?_take, List.getElem?_take]
      by_cases h2 : (a + (j : Int) - at_).toNat < k
      · rw [if_pos h2, if_pos (by omega)]
      · rw [if_neg h2, if_neg (by omega)]
    · rw [if_neg h, if_neg h]
/-- A byte more, outside. -/
theorem layB_out {at_ : Int} {x : List UInt8} {a : Int} {b : List UInt8} {k : Nat} (h : at_ + k < a ∨ a + b.length ≤ at_ + k) : layB at_ (x.take (k + 1)) a b = layB at_ (x.take k) a b := by
  apply List.ext_getElem?
  intro j
  rw [layB_get, layB_get]
  by_cases hj : j < b.length
  · congr 1; funext u
    by_cases h1 : at_ ≤ a + j
    · rw [if_pos h1, if_pos h1, List.getElem?_take, List.getElem?_take]
      by_cases h2 : (a + (j : Int) - at_).toNat < k
      · rw [if_pos h2, if_pos (by omega)]
      · rw [if_neg h2, if_neg (by omega)]
    · rw [if_neg h1, if_neg h1]
  · have e : b[j]? = none := List.getElem?_eq_none (by omega)
    rw [e]; rfl
theorem layY_in {at_ by_ a : Int} {y : List Int} {k i : Nat} (hi : at_ + k - a = i) (hl : i < y.length) : layY at_ (k + 1) by_ a y = (layY at_ k by_ a y).set i by_ := by
  apply List.ext_getElem?
  intro j
  rw [List.getElem?_set, layY_get, layY_get, layY_len]
  by_cases e : i = j
  · subst e
    rw [if_pos rfl, if_pos hl, List.getElem?_eq_getElem hl, Option.map_some, if_pos (by omega)]
  · rw [if_neg e]
    congr 1; funext u
    by_cases h : at_ ≤ a + j ∧ a + j < at_ + k
    · rw [if_pos h, if_pos (by omega)]
    · rw [if_neg h, if_neg (by omega)]
theorem layY_out {at_ by_ a : Int} {y : List Int} {k : Nat} (h : at_ + k < a ∨ a + y.length ≤ at_ + k) : layY at_ (k + 1) by_ a y = layY at_ k by_ a y := by
  apply List.ext_getElem?
  intro j
  rw [layY_get, layY_get]
  by_cases hj : j < y.length
  · congr 1; funext u
    by_cases h1 : at_ ≤ a + j ∧ a + j < at_ + k
    · rw [if_pos h1, if_pos (by omega)]
    · rw [if_neg h1, if_neg (by omega)]
  · have e : y[j]? = none := List.getElem?_eq_none (by omega)
    rw [e]; rfl
theorem overB_len (E : List Ent) (k a : Int) (b : List UInt8) : (overB E k a b).length = b.length := by
  unfold overB
  induction E generalizing b with
  | nil => rfl
  | cons e E ih =>
    rw [List.foldl_cons, ih]
    split
    · exact layB_len _ _ _ _
    · rfl
theorem overY_len (E : List Ent) (k a : Int) (y : List Int) : (overY E k a y).length = y.length := by
  unfold overY
  induction E generalizing y with
  | nil => rfl
  | cons e E ih =>
    rw [List.foldl_cons, ih]
    split
    · exact layY_len _ _ _ _ _
    · rfl
theorem overB_snoc (E : List Ent) (i : Nat) (h : i < E.length) (k a : Int) (b : List UInt8) : overB (E.take (i + 1)) k a b = if (ent E i).blk = k then layB (ent E i).at_ (ent E i).b a (overB (E.take i) k a b) else overB (E.take i) k a b := by
  unfold overB
  rw [List.take_succ_eq_append_getElem h, List.foldl_append, ent_eq h]; rfl
theorem overY_snoc (E : List Ent) (i : Nat) (h : i < E.length) (k a : Int) (y : List Int) : overY (E.take (i + 1)) k a y = if (ent E i).blk = k then layY (ent E i).at_ (ent E i).b.length (ent E i).by_ a (overY (E.take i) k a y) else overY (E.take i) k a y := by
  unfold overY
  rw [List.take_succ_eq_append_getElem h, List.foldl_append, ent_eq h]; rfl
theorem layY_ok {at_ by_ a : Int} {n : Nat} {y : List Int} (h : ∀ x ∈ y, I64 x) (hb : I64 by_) : ∀ x ∈ layY at_ n by_ a y, I64 x := by
  intro x hx
  obtain ⟨i, hi, rfl⟩ := List.getElem_of_mem hx
  have h1 : (layY at_ n by_ a y)[i]? = some (layY at_ n by_ a y)[i] := List.getElem?_eq_getElem hi
  rw [layY_get] at h1
  obtain ⟨u, hu, e⟩ := Option.map_eq_some_iff.1 h1
  rw [← e]
  split
  · exact hb
  · exact h u (List.mem_of_getElem? hu)
theorem overY_ok {E : List Ent} (hE : ∀ e ∈ E, I64 e.by_) {k a : Int} {y : List Int} (h : ∀ x ∈ y, I64 x) : ∀ x ∈ overY E k a y, I64 x := by
  unfold overY
  induction E generalizing y with
  | nil => exact h
  | cons e E ih =>
    rw [List.foldl_cons]
    refine ih (fun e' he' => hE e' (by simp [he'])) ?_
    split
    · exact layY_ok h (hE e (by simp))
    · exact h
end Go.Ren
