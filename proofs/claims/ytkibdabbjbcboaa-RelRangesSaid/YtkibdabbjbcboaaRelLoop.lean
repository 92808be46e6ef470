/-
  A relation that is built up: what put makes of it; what chapter 15's relations are. No condition.
-/
import Derived.Test.YtkibdabbjbcboaaRelEmpty
namespace Go.Ren
set_option linter.unusedVariables false
def putR (R : Nat → Nat → Bool) (a b : Nat) : Nat → Nat → Bool := fun x y => R x y || (decide (x = a) && decide (y = b))
theorem put_bits {n : Nat} {M : Nat → Nat} {R : Nat → Nat → Bool} (h : ∀ a b, a < n → b < n → (M a).testBit b = R a b) (a b : Nat) : ∀ x y, x < n → y < n → (updN M a (M a ||| 2 ^ b) x).testBit y = putR R a b x y := by
  intro x y hx hy
  unfold putR updN
  by_cases e : x = a
  · subst e
    simp only [if_true, decide_true, Bool.true_and]
    rw [testBit_put, h x y hx hy]
    congr 1
    rw [Bool.eq_iff_iff]; simp; exact eq_comm
  · simp [e, h x y hx hy]
def relN (L : Lg) : Nat := if mayL L = true then L.ev.length else 0
def fromB (L : Lg) (a b : Nat) : Bool := (evn L.ev b).fr.contains (a : Int)
def synE (L : Lg) (a b : Nat) : Bool := fromB L a b && (evn L.ev a).seq && (evn L.ev b).seq && evEq (evn L.ev a) (evn L.ev b)
def synB (L : Lg) (a b : Nat) : Bool := synE L a b || L.pr.contains ((a : Int), (b : Int))
/-- What is read from is -1, or an event ahead. -/
theorem may_from {L : Lg} (h : mayL L = true) {b k : Nat} (hb : b < L.ev.length) (hk : k < (evn L.ev b).fr.length) : (evn L.ev b).fr[k] = -1 ∨ ∃ a : Nat, (evn L.ev b).fr[k] = (a : Int) ∧ a < b := by
  have h1 := evOk1_reads ((mayL_iff.1 h).2.1 b hb) k hk
  unfold evRead1 at h1
  simp only [List.getD_eq_getElem?_getD, List.getElem?_eq_getElem hk, Option.getD_some] at h1
  split at h1
  · exact .inl ‹_›
  · split at h1
    · cases h1
    · rename_i h2 h3
      exact .inr ⟨(evn L.ev b).fr[k].toNat, by omega, by omega⟩
theorem fromB_lt {L : Lg} (h : mayL L = true) {a b : Nat} (hb : b < L.ev.length) (hf : fromB L a b = true) : a < b := by
  unfold fromB at hf
  rw [List.contains_iff_mem] at hf
  obtain ⟨k, hk, e⟩ := List.getElem_of_mem hf
  rcases may_from h hb hk with h1 | ⟨c, h1, h2⟩ <;> omega
theorem may_pair {L : Lg} (h : mayL L = true) {i : Nat} (hi : i < L.pr.length) : ∃ a b : Nat, prn L.pr i = ((a : Int), (b : Int)) ∧ a < b ∧ b < L.ev.length := by
  have := (mayL_iff.1 h).2.2 i hi
  unfold prOk at this
  simp only [decide_eq_true_eq] at this
  refine ⟨(prn L.pr i).1.toNat, (prn L.pr i).2.toNat, Prod.ext (by simp; omega) (by simp; omega), by omega, by omega⟩
theorem synB_lt {L : Lg} (h : mayL L = true) {a b : Nat} (hb : b < L.ev.length) (hs : synB L a b = true) : a < b := by
  unfold synB at hs
  rw [Bool.or_eq_true] at hs
  rcases hs with h1 | h1
  · unfold synE at h1
    simp only [Bool.and_eq_true] at h1
    exact fromB_lt h hb h1.1.1.1
  · rw [List.contains_iff_mem] at h1
    obtain ⟨i, hi, e⟩ := List.getElem_of_mem h1
    obtain ⟨x, y, e2, h2, _⟩ := may_pair h hi
    rw [prn_eq hi, e] at e2
    simp at e2
    omega
theorem may_small {L : Lg} (h : mayL L = true) {b : Nat} (hb : b < L.ev.length) : (evn L.ev b).fr.length ≤ 8 := (evFields_sizes (evOk1_fields ((mayL_iff.1 h).2.1 b hb))).1
end Go.Ren
namespace Go.Proofs.Ytkibdabbjbcboaa
open Go.Ren Go.RowKit
set_option linter.unusedVariables false
structure RelLoop (w0 : World) (g : Nat) (rv : Value) (r : Nat → Nat) (n : Nat) (R : Nat → Nat → Bool) (wr : World) : Prop where
  ex : ∃ M, RelAt wr g rv r n M ∧ ∀ a b, a < n → b < n → (M a).testBit b = R a b
  x : Ext w0 wr
  fr : ∀ k, RelFp g rv r n k → w0.heap.size ≤ k
theorem RelLoop.congr {w0 wr : World} {g n : Nat} {rv : Value} {r : Nat → Nat} {R R' : Nat → Nat → Bool} (h : RelLoop w0 g rv r n R wr) (e : ∀ a b, a < n → b < n → R a b = R' a b) : RelLoop w0 g rv r n R' wr := by
  obtain ⟨M, h1, h2⟩ := h.ex
  exact ⟨⟨M, h1, fun a b ha hb => (h2 a b ha hb).trans (e a b ha hb)⟩, h.x, h.fr⟩
theorem RelLoop.ext {w0 wr w' : World} {g n : Nat} {rv : Value} {r : Nat → Nat} {R : Nat → Nat → Bool} (h : RelLoop w0 g rv r n R wr) (x : Ext wr w') : RelLoop w0 g rv r n R w' := by
  obtain ⟨M, h1, h2⟩ := h.ex
  exact ⟨⟨M, h1.ext x, h2⟩, h.x.trans x, h.fr⟩
theorem RelLoop.le {w0 wr : World} {g n : Nat} {rv : Value} {r : Nat → Nat} {R : Nat → Nat → Bool} (h : RelLoop w0 g rv r n R wr) : n ≤ 64 := by obtain ⟨M, h1, h2⟩ := h.ex; exact h1.le
theorem RelLoop.is {w0 wr : World} {g n : Nat} {rv : Value} {r : Nat → Nat} {R : Nat → Nat → Bool} (h : RelLoop w0 g rv r n R wr) : RelIs wr (.pointer (some ⟨g, 0, none⟩)) n R := by
  obtain ⟨M, h1, h2⟩ := h.ex; exact ⟨g, rv, r, M, rfl, h1, h2⟩
theorem RelLoop.len {w0 wr : World} {g n : Nat} {rv : Value} {r : Nat → Nat} {R : Nat → Nat → Bool} (h : RelLoop w0 g rv r n R wr) : wr.cell? ⟨g, 0, none⟩ = some (.int .i64 (n : Int)) ∧ wr.cell? ⟨g, 1, none⟩ = some rv := by
  obtain ⟨M, h1, h2⟩ := h.ex; exact h1.facts
/-- A block of another type is no part of a relation. -/
theorem RelLoop.apart {w0 wr : World} {g n : Nat} {rv : Value} {r : Nat → Nat} {R : Nat → Nat → Bool} (h : RelLoop w0 g rv r n R wr) {k : Nat} {cs : Array Value} {T : TypeId} (hb : wr.heap[k]? = some (.cells cs T (0, 0))) (h1 : 66 ≠ T) (h2 : 68 ≠ T) (h3 : 69 ≠ T) : ¬ RelFp g rv r n k := by
  obtain ⟨M, ha, -⟩ := h.ex
  rintro (e | e | ⟨i, hi, e⟩)
  · subst e; rw [ha.box] at hb; simp at hb; exact h1 hb.2
  · exact ha.row.apart_obj hb h2 e
  · subst e; rw [ha.word i hi] at hb; simp at hb; exact h3 hb.2
def RPutPost (w0 : World) (g : Nat) (rv : Value) (r : Nat → Nat) (n : Nat) (R : Nat → Nat → Bool) (w : World) (e : Ending) (w' : World) : Prop := e = .returned (.tuple #[]) ∧ RelLoop w0 g rv r n R w' ∧ Mod (RelFp g rv r n) w w'
theorem rput_any (w0 w : World) (g : Nat) (rv : Value) (r : Nat → Nat) (n : Nat) (R : Nat → Nat → Bool) (h : RelLoop w0 g rv r n R w) (a b : Nat) (ha : a < n) (hb : b < n) :
    Calls Try.prog 47 #[.pointer (some ⟨g, 0, none⟩), .int .i64 (a : Int), .int .i64 (b : Int)] w (RPutPost w0 g rv r n (putR R a b) w) := by
  obtain ⟨⟨M, h1, h2⟩, x, fr⟩ := h
  refine (put_any w g rv r M n a b h1 ha hb).mono ?_
  rintro e w' ⟨rfl, p1, p2⟩
  have p3 : Mod (RelFp g rv r n) w w' := p2.weak (fun i hi => .inl (.inr (.inr ⟨a, ha, hi⟩)))
  exact ⟨rfl, ⟨⟨_, p1, put_bits h2 a b⟩, x.trans' p3 (fun i hi => .inr (fr i hi)), fr⟩, p3⟩
theorem RelPost.loop {n : Nat} {R : Nat → Nat → Bool} {w : World} {e : Ending} {w' : World} (h : RelPost n R w e w') : ∃ g rv r, e = .returned (.pointer (some ⟨g, 0, none⟩)) ∧ RelLoop w g rv r n R w' := by
  obtain ⟨g, rv, r, M, h1, h2, h3, h4, h5⟩ := h
  exact ⟨g, rv, r, h1, ⟨⟨M, h2, h3⟩, h4, h5⟩⟩
theorem RelLoop.post {w0 wr : World} {g n : Nat} {rv : Value} {r : Nat → Nat} {R : Nat → Nat → Bool} (h : RelLoop w0 g rv r n R wr) : RelPost n R w0 (.returned (.pointer (some ⟨g, 0, none⟩))) wr := by
  obtain ⟨⟨M, h1, h2⟩, x, fr⟩ := h
  exact ⟨g, rv, r, M, rfl, h1, h2, x, fr⟩
/-- Of a world ahead. -/
theorem RelLoop.back {w1 w0 wr : World} {g n : Nat} {rv : Value} {r : Nat → Nat} {R : Nat → Nat → Bool} (h : RelLoop w0 g rv r n R wr) (x : Ext w1 w0) : RelLoop w1 g rv r n R wr :=
  ⟨h.ex, x.trans h.x, fun k hk => Nat.le_trans x.size (h.fr k hk)⟩
theorem RelPost.none {w1 w2 w : World} {e : Ending} {L : Lg} {R R' : Nat → Nat → Bool} (h : RelPost 0 R w1 e w2) (hm : mayL L = false) (x : Ext w w1) : RelPost (relN L) R' w e w2 := by
  have e0 : relN L = 0 := by unfold relN; rw [hm]; rfl
  rw [e0]
  obtain ⟨g, rv, r, M, h1, h2, h3, h4, h5⟩ := h
  exact ⟨g, rv, r, M, h1, h2, fun a b ha => absurd ha (Nat.not_lt_zero _), x.trans h4, fun k hk => Nat.le_trans x.size (h5 k hk)⟩
end Go.Proofs.Ytkibdabbjbcboaa
