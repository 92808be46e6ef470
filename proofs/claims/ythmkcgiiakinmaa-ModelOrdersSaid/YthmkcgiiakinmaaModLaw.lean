/-
  What package model computes, on plain lists. No condition, no program.
-/
import Derived.Test.YthmkcgiiakinmaaRelHeadsLaw
import Derived.Test.YthmkcgiiakinmaaRelList
namespace Go.Ren
set_option linter.unusedVariables false
/-- The first number below n that has p; -1: none. -/
def fstN (p : Nat → Bool) : Nat → Int
  | 0 => -1
  | n + 1 => if fstN p n = -1 then (if p n = true then (n : Int) else -1) else fstN p n
theorem fstN_none {p : Nat → Bool} {n : Nat} (h : ∀ j, j < n → p j = false) : fstN p n = -1 := by
  induction n with
  | zero => rfl
  | succ n ih => unfold fstN; rw [ih fun j hj => h j (by omega), h n (by omega)]; rfl
theorem fstN_hit {p : Nat → Bool} {k n : Nat} (hk : k < n) (h : ∀ j, j < k → p j = false) (h1 : p k = true) : fstN p n = k := by
  induction n with
  | zero => omega
  | succ n ih =>
    unfold fstN
    by_cases e : k = n
    · subst e; rw [fstN_none h, if_pos rfl, if_pos h1]
    · rw [ih (by omega)]; rw [if_neg (by omega)]
theorem fstN_cases (p : Nat → Bool) (n : Nat) : (fstN p n = -1 ∧ ∀ j, j < n → p j = false) ∨ ∃ k : Nat, k < n ∧ fstN p n = k ∧ p k = true ∧ ∀ j, j < k → p j = false := by
  induction n with
  | zero => exact .inl ⟨rfl, fun j hj => absurd hj (Nat.not_lt_zero _)⟩
  | succ n ih =>
    rcases ih with ⟨h1, h2⟩ | ⟨k, h1, h2, h3, h4⟩
    · cases hp : p n with
      | true => exact .inr ⟨n, by omega, fstN_hit (by omega) h2 hp, hp, h2⟩
      | false =>
        have : ∀ j, j < n + 1 → p j = false := fun j hj => by
          by_cases e : j = n
          · subst e; exact hp
          · exact h2 j (by omega)
        exact .inl ⟨fstN_none this, this⟩
    · exact .inr ⟨k, by omega, fstN_hit (by omega) h4 h3, h3, h4⟩
theorem fstN_congr {p q : Nat → Bool} {n : Nat} (h : ∀ j, j < n → p j = q j) : fstN p n = fstN q n := by
  induction n with
  | zero => rfl
  | succ n ih => unfold fstN; rw [ih fun j hj => h j (by omega), h n (by omega)]
theorem fstN_range (p : Nat → Bool) (n : Nat) : -1 ≤ fstN p n ∧ fstN p n < n ∨ (n = 0 ∧ fstN p n = -1) := by
  rcases fstN_cases p n with ⟨h, _⟩ | ⟨k, h1, h2, _⟩ <;> omega
def allN (p : Nat → Bool) (k : Nat) : Bool := (List.range k).all p
theorem allN_succ (p : Nat → Bool) (k : Nat) : allN p (k + 1) = (allN p k && p k) := by simp [allN, List.range_succ, List.all_append]
theorem allN_iff {p : Nat → Bool} {k : Nat} : allN p k = true ↔ ∀ i, i < k → p i = true := by simp [allN, List.all_eq_true]
theorem anyB_none {p : Nat → Bool} {k : Nat} : anyB p k = false ↔ ∀ i, i < k → p i = false := by simp [anyB, List.any_eq_false]
theorem anyB_congr {p q : Nat → Bool} {k : Nat} (h : ∀ i, i < k → p i = q i) : anyB p k = anyB q k := by
  induction k with
  | zero => rfl
  | succ k ih => rw [anyB_succ, anyB_succ, ih fun i hi => h i (by omega), h k (by omega)]

def frn (L : Lg) (r i : Nat) : Int := (evn L.ev r).fr.getD i 0
theorem frn_eq {L : Lg} {r i : Nat} {e : Ev} (he : e = evn L.ev r) (hi : i < e.fr.length) : frn L r i = e.fr[i] := by subst he; simp [frn, hi]
theorem frn_may {L : Lg} (h : mayL L = true) {r i : Nat} (hr : r < L.ev.length) (hi : i < (evn L.ev r).fr.length) : frn L r i = -1 ∨ ∃ a : Nat, frn L r i = (a : Int) ∧ a < r := by
  rw [frn_eq rfl hi]; exact may_from h hr hi
def hidP (L : Lg) (r : Nat) (w a : Int) (v : Nat) : Bool := wrsB (evn L.ev v) && evCov (evn L.ev v) (evn L.ev r).blk a && hbB L v r && (decide (w < 0) || hasB L.ev.length (hbB L) w v)
def hidB (L : Lg) (r : Nat) (w a : Int) : Bool := anyB (hidP L r w a) L.ev.length
def cohP (L : Lg) (r i : Nat) : Bool := hasB L.ev.length (hbB L) r (frn L r i) || hidB L r (frn L r i) ((evn L.ev r).at_ + i)
def cohB (L : Lg) (r : Nat) : Bool := anyB (cohP L r) (evn L.ev r).fr.length
def cohI (L : Lg) : Int := if mayL L = true then fstN (cohB L) L.ev.length else 0
def qP (L : Lg) (r i : Nat) : Bool := (evn L.ev r).nt && decide (0 ≤ frn L r i) && (evn L.ev (frn L r i).toNat).nt && evEq (evn L.ev r) (evn L.ev (frn L r i).toNat)
def tearP (L : Lg) (r j : Nat) : Bool := anyB (fun i => qP L r i && qP L r j && decide (frn L r j ≠ frn L r i)) j
def tearB (L : Lg) (r : Nat) : Bool := anyB (tearP L r) (evn L.ev r).fr.length
def tearI (L : Lg) : Int := if mayL L = true then fstN (tearB L) L.ev.length else 0
/-- Where k stands in a list of numbers, among its first i. -/
def posK (l : List Int) (i k : Nat) : Int := fstN (fun j => l.getD j (-1) == (k : Int)) i
def plStep (n : Nat) (l : List Int) (i : Nat) : Bool := decide (0 ≤ l.getD i (-1) ∧ l.getD i (-1) < (n : Int)) && decide (posK l i (l.getD i (-1)).toNat = -1)
def plOk (n : Nat) (l : List Int) : Bool := decide (l.length = n) && allN (plStep n l) l.length
def posI (l : List Int) (k : Nat) : Int := posK l l.length k
def ordP (l : List Int) (p : Int × Int) : Bool := decide (posI l p.1.toNat < posI l p.2.toNat)
def ordB (L : Lg) (l : List Int) : Bool := mayL L && plOk L.ev.length l && (listR L.ev.length (hbB L)).all (ordP l)
def ordI (L : Lg) (l : List Int) : Int := if ordB L l = true then -1 else 0
def pastB (L : Lg) (w v r : Nat) : Bool :=
  if (synB L w r && evEq (evn L.ev v) (evn L.ev r)) = true then true
  else if hbB L w r = false then false
  else if (hbB L v r && (evn L.ev w).seq && evEq (evn L.ev w) (evn L.ev v)) = true then true
  else hbB L w v && (evn L.ev r).seq && evEq (evn L.ev v) (evn L.ev r)
def atoP (L : Lg) (l : List Int) (r w v : Nat) : Bool := wrsB (evn L.ev v) && (evn L.ev v).seq && decide (v ≠ w) && decide (v ≠ r) && decide (posI l w < posI l v) && decide (posI l v < posI l r) && pastB L w v r
def atoQ (L : Lg) (l : List Int) (r i : Nat) : Bool := decide (0 ≤ frn L r i) && anyB (atoP L l r (frn L r i).toNat) L.ev.length
def atoB (L : Lg) (l : List Int) (r : Nat) : Bool := anyB (atoQ L l r) (evn L.ev r).fr.length
def atoI (L : Lg) (l : List Int) : Int := if ordB L l = true then fstN (atoB L l) L.ev.length else 0
def valB (L : Lg) (l : List Int) : Bool := mayL L && decide (cohI L = -1) && decide (tearI L = -1) && ordB L l && decide (atoI L l = -1)
def natL (L : Lg) : List Int := if mayL L = true then (List.range L.ev.length).map fun i : Nat => (i : Int) else []
end Go.Ren
