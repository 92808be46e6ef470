/-
  What the laws on relations have in common. No condition. RelHeads, RelEdges, the plain laws: happens-before of a head, and of a log with a pair more. No condition. What package model computes, on plain lists. No condition, no program. The laws of chapter 16, on plain lists: the log's own order, heads. No condition. What package race computes, on plain lists; the laws of chapter 17. No condition, no program. What rel.From builds, step by step: plain laws. No condition.
-/
import Derived.Test.YtbhocahmhmafmaaGreatVRelSync
import Derived.Test.YtbhocahmhmafmaaGreatVRelAt
import Derived.Test.YtbhocahmhmafmaaGreatVEvCopied
import Derived.Test.YtbhocahmhmafmaaGreatVPlan
import Derived.Test.YtbhocahmhmafmaaGreatVBlkLaw
namespace Go.Ren
set_option linter.unusedVariables false
theorem hasB_nat {n : Nat} {R : Nat → Nat → Bool} {a b : Nat} (ha : a < n) (hb : b < n) : hasB n R (a : Int) (b : Int) = R a b := by
 unfold hasB
 have : decide (0 ≤ (a : Int) ∧ (a : Int) < (n : Int) ∧ 0 ≤ (b : Int) ∧ (b : Int) < (n : Int)) = true := by rw [decide_eq_true_eq]; omega
 rw [this]; simp
theorem relN_may {L : Lg} (h : mayL L = true) : relN L = L.ev.length := by unfold relN; rw [if_pos h]
def anyB (p : Nat → Bool) (k : Nat) : Bool := (List.range k).any p
theorem anyB_iff {p : Nat → Bool} {k : Nat} : anyB p k = true ↔ ∃ c, c < k ∧ p c = true := by simp [anyB, List.any_eq_true]
end Go.Ren
namespace Go.Proofs.YtbhocahmhmafmaaGreat
open Go.Ren Go.RowKit
set_option linter.unusedVariables false
theorem rpost_is {n : Nat} {R : Nat → Nat → Bool} {w : World} {e : Ending} {w' : World} (h : RelPost n R w e w') : ∃ g, e = .returned (.pointer (some ⟨g, 0, none⟩)) ∧ RelIs w' (.pointer (some ⟨g, 0, none⟩)) n R ∧ Ext w w' := by
 obtain ⟨g, rv, r, h1, h2⟩ := h.loop
 exact ⟨g, h1, h2.is, h2.x⟩
end Go.Proofs.YtbhocahmhmafmaaGreat
namespace Go.Ren
set_option linter.unusedVariables false
end Go.Ren
namespace Go.Ren
set_option linter.unusedVariables false
def fstN (p : Nat → Bool) : Nat → Int
 | 0 => -1
 | n + 1 => if fstN p n = -1 then (if p n = true then (n : Int) else -1) else fstN p n
theorem fstN_none {p : Nat → Bool} {n : Nat} (h : ∀ j, j < n → p j = false) : fstN p n = -1 := by
 induction n with
 | zero => rfl
 | succ n ih => unfold fstN; rw [ih fun j hj => h j (by omega), h n (by omega)]; rfl
theorem fstN_hit {p : Nat → Bool} {k n : Nat} (hk : k < n) (h : ∀ j, j < k → p j = false) (h1 : p k = true) : fstN p n = k := by
 induction n with
 | zero => omega
 | succ n ih =>
  unfold fstN
  by_cases e : k = n
  · subst e; rw [fstN_none h, if_pos rfl, if_pos h1]
  · rw [ih (by omega)]; rw [if_neg (by omega)]
theorem fstN_cases (p : Nat → Bool) (n : Nat) : (fstN p n = -1 ∧ ∀ j, j < n → p j = false) ∨ ∃ k : Nat, k < n ∧ fstN p n = k ∧ p k = true ∧ ∀ j, j < k → p j = false := by
 induction n with
 | zero => exact .inl ⟨rfl, fun j hj => absurd hj (Nat.not_lt_zero _)⟩
 | succ n ih =>
  rcases ih with ⟨h1, h2⟩ | ⟨k, h1, h2, h3, h4⟩
  · cases hp : p n with
    | true => exact .inr ⟨n, by omega, fstN_hit (by omega) h2 hp, hp, h2⟩
    | false =>
     have : ∀ j, j < n + 1 → p j = false := fun j hj => by
      by_cases e : j = n
      · subst e; exact hp
      · exact h2 j (by omega)
     exact .inl ⟨fstN_none this, this⟩
  · exact .inr ⟨k, by omega, fstN_hit (by omega) h4 h3, h3, h4⟩
def allN (p : Nat → Bool) (k : Nat) : Bool := (List.range k).all p
theorem allN_iff {p : Nat → Bool} {k : Nat} : allN p k = true ↔ ∀ i, i < k → p i = true := by simp [allN, List.all_eq_true]
theorem anyB_none {p : Nat → Bool} {k : Nat} : anyB p k = false ↔ ∀ i, i < k → p i = false := by simp [anyB, List.any_eq_false]
def frn (L : Lg) (r i : Nat) : Int := (evn L.ev r).fr.getD i 0
theorem frn_eq {L : Lg} {r i : Nat} {e : Ev} (he : e = evn L.ev r) (hi : i < e.fr.length) : frn L r i = e.fr[i] := by subst he; simp [frn, hi]
theorem frn_may {L : Lg} (h : mayL L = true) {r i : Nat} (hr : r < L.ev.length) (hi : i < (evn L.ev r).fr.length) : frn L r i = -1 ∨ ∃ a : Nat, frn L r i = (a : Int) ∧ a < r := by
 rw [frn_eq rfl hi]; exact may_from h hr hi
def hidP (L : Lg) (r : Nat) (w a : Int) (v : Nat) : Bool := wrsB (evn L.ev v) && evCov (evn L.ev v) (evn L.ev r).blk a && hbB L v r && (decide (w < 0) || hasB L.ev.length (hbB L) w v)
def hidB (L : Lg) (r : Nat) (w a : Int) : Bool := anyB (hidP L r w a) L.ev.length
def cohP (L : Lg) (r i : Nat) : Bool := hasB L.ev.length (hbB L) r (frn L r i) || hidB L r (frn L r i) ((evn L.ev r).at_ + i)
def cohB (L : Lg) (r : Nat) : Bool := anyB (cohP L r) (evn L.ev r).fr.length
def cohI (L : Lg) : Int := if mayL L = true then fstN (cohB L) L.ev.length else 0
def qP (L : Lg) (r i : Nat) : Bool := (evn L.ev r).nt && decide (0 ≤ frn L r i) && (evn L.ev (frn L r i).toNat).nt && evEq (evn L.ev r) (evn L.ev (frn L r i).toNat)
def tearP (L : Lg) (r j : Nat) : Bool := anyB (fun i => qP L r i && qP L r j && decide (frn L r j ≠ frn L r i)) j
def tearB (L : Lg) (r : Nat) : Bool := anyB (tearP L r) (evn L.ev r).fr.length
def tearI (L : Lg) : Int := if mayL L = true then fstN (tearB L) L.ev.length else 0
def posK (l : List Int) (i k : Nat) : Int := fstN (fun j => l.getD j (-1) == (k : Int)) i
def plStep (n : Nat) (l : List Int) (i : Nat) : Bool := decide (0 ≤ l.getD i (-1) ∧ l.getD i (-1) < (n : Int)) && decide (posK l i (l.getD i (-1)).toNat = -1)
def plOk (n : Nat) (l : List Int) : Bool := decide (l.length = n) && allN (plStep n l) l.length
def posI (l : List Int) (k : Nat) : Int := posK l l.length k
def ordP (l : List Int) (p : Int × Int) : Bool := decide (posI l p.1.toNat < posI l p.2.toNat)
def ordB (L : Lg) (l : List Int) : Bool := mayL L && plOk L.ev.length l && (listR L.ev.length (hbB L)).all (ordP l)
def ordI (L : Lg) (l : List Int) : Int := if ordB L l = true then -1 else 0
def pastB (L : Lg) (w v r : Nat) : Bool :=
 if (synB L w r && evEq (evn L.ev v) (evn L.ev r)) = true then true
 else if hbB L w r = false then false
 else if (hbB L v r && (evn L.ev w).seq && evEq (evn L.ev w) (evn L.ev v)) = true then true
 else hbB L w v && (evn L.ev r).seq && evEq (evn L.ev v) (evn L.ev r)
def atoP (L : Lg) (l : List Int) (r w v : Nat) : Bool := wrsB (evn L.ev v) && (evn L.ev v).seq && decide (v ≠ w) && decide (v ≠ r) && decide (posI l w < posI l v) && decide (posI l v < posI l r) && pastB L w v r
def atoQ (L : Lg) (l : List Int) (r i : Nat) : Bool := decide (0 ≤ frn L r i) && anyB (atoP L l r (frn L r i).toNat) L.ev.length
def atoB (L : Lg) (l : List Int) (r : Nat) : Bool := anyB (atoQ L l r) (evn L.ev r).fr.length
def atoI (L : Lg) (l : List Int) : Int := if ordB L l = true then fstN (atoB L l) L.ev.length else 0
def valB (L : Lg) (l : List Int) : Bool := mayL L && decide (cohI L = -1) && decide (tearI L = -1) && ordB L l && decide (atoI L l = -1)
def natL (L : Lg) : List Int := if mayL L = true then (List.range L.ev.length).map fun i : Nat => (i : Int) else []
end Go.Ren
namespace Go.Ren
set_option linter.unusedVariables false
theorem natL_len {L : Lg} (h : mayL L = true) : (natL L).length = L.ev.length := by unfold natL; rw [if_pos h]; simp
theorem natL_get {L : Lg} (h : mayL L = true) {j : Nat} (hj : j < L.ev.length) : (natL L).getD j (-1) = j := by unfold natL; rw [if_pos h]; simp [hj]
theorem nat_posK {L : Lg} (h : mayL L = true) {i k : Nat} (hi : i ≤ L.ev.length) (hk : i ≤ k) : posK (natL L) i k = -1 := fstN_none fun j hj => by
 rw [natL_get h (by omega)]; simp; omega
theorem nat_posI {L : Lg} (h : mayL L = true) {k : Nat} (hk : k < L.ev.length) : posI (natL L) k = k := by
 unfold posI posK
 rw [natL_len h]
 exact fstN_hit hk (fun j hj => by rw [natL_get h (by omega)]; simp; omega) (by rw [natL_get h hk]; simp)
theorem nat_plOk {L : Lg} (h : mayL L = true) : plOk L.ev.length (natL L) = true := by
 unfold plOk
 rw [Bool.and_eq_true, decide_eq_true_eq, allN_iff]
 refine ⟨natL_len h, fun i hi => ?_⟩
 rw [natL_len h] at hi
 unfold plStep
 rw [natL_get h hi, Int.toNat_natCast, nat_posK h (by omega) (Nat.le_refl _)]
 simp; omega
theorem nat_ordB {L : Lg} (h : mayL L = true) : ordB L (natL L) = true := by
 unfold ordB
 rw [h, nat_plOk h, Bool.true_and, Bool.true_and, List.all_eq_true]
 intro p hp
 obtain ⟨a, b, rfl, ha, hb, hr⟩ := mem_listR.1 hp
 unfold ordP
 dsimp only
 rw [Int.toNat_natCast, Int.toNat_natCast, nat_posI h ha, nat_posI h hb, decide_eq_true_eq]
 have := (hbB_lt hr).1
 omega
section
variable {L : Lg} {n : Int}
end
end Go.Ren
namespace Go.Ren
set_option linter.unusedVariables false
end Go.Ren
namespace Go.Ren
set_option linter.unusedVariables false
def fromP (L : Lg) (b k : Nat) (x y : Nat) : Bool := (decide (y < b) && fromB L x y) || (decide (y = b) && ((evn L.ev b).fr.take k).contains (x : Int))
theorem fromP_zero (L : Lg) (b x y : Nat) : fromP L b 0 x y = (decide (y < b) && fromB L x y) := by simp [fromP]
theorem fromP_all {L : Lg} {b k : Nat} (hk : k = (evn L.ev b).fr.length) (x y : Nat) : fromP L b k x y = (decide (y < b + 1) && fromB L x y) := by
 subst hk
 unfold fromP
 rw [List.take_length]
 by_cases e : y = b
 · subst e; simp [fromB]
 · rw [Bool.eq_iff_iff]; simp [e]; intro _; omega
theorem fromP_neg {L : Lg} {b k : Nat} (hk : k < (evn L.ev b).fr.length) (h : (evn L.ev b).fr[k] = -1) (x y : Nat) : fromP L b k x y = fromP L b (k + 1) x y := by
 unfold fromP
 rw [List.take_succ_eq_append_getElem hk, h]
 congr 2
 rw [Bool.eq_iff_iff]
 simp only [List.contains_iff_mem, List.mem_append, List.mem_singleton]
 constructor
 · exact .inl
 · rintro (h1 | h1)
   · exact h1
   · omega
theorem fromP_put {L : Lg} {b k a : Nat} (hk : k < (evn L.ev b).fr.length) (h : (evn L.ev b).fr[k] = (a : Int)) (x y : Nat) : putR (fromP L b k) a b x y = fromP L b (k + 1) x y := by
 unfold fromP putR
 rw [List.take_succ_eq_append_getElem hk, h, Bool.eq_iff_iff]
 simp only [Bool.or_eq_true, Bool.and_eq_true, decide_eq_true_eq, List.contains_iff_mem, List.mem_append, List.mem_singleton, Int.ofNat_inj]
 constructor
 · rintro ((h1 | ⟨h1, h2⟩) | ⟨h1, h2⟩)
   · exact .inl h1
   · exact .inr ⟨h1, .inl h2⟩
   · exact .inr ⟨h2, .inr h1⟩
 · rintro (h1 | ⟨h1, h2 | h2⟩)
   · exact .inl (.inl h1)
   · exact .inl (.inr ⟨h1, h2⟩)
   · exact .inr ⟨h2, h1⟩
end Go.Ren
