/-
  What the calls of package event compute, on plain lists. No condition, no program.
-/
import Derived.Test.YthmkcgiiakinmaaLib
namespace Go.Ren
set_option linter.unusedVariables false

structure Ev where
  ag : Int
  kind : Int
  seq : Bool
  nt : Bool
  blk : Int
  at_ : Int
  size : Int
  rd : List UInt8
  wr : List UInt8
  fr : List Int
structure Lg where
  ev : List Ev
  pr : List (Int × Int)
def ev0 : Ev := ⟨0, 0, false, false, 0, 0, 0, [], [], []⟩
def evn (L : List Ev) (i : Nat) : Ev := L.getD i ev0
theorem evn_eq {L : List Ev} {i : Nat} (h : i < L.length) : evn L i = L[i] := by simp [evn, h]
structure EvI (e : Ev) : Prop where
  ag : I64 e.ag
  kind : I64 e.kind
  blk : I64 e.blk
  at_ : I64 e.at_
  size : I64 e.size
  fr : ∀ x ∈ e.fr, I64 x

def rdsB (e : Ev) : Bool := decide (e.kind = 1 ∨ e.kind = 3)
def wrsB (e : Ev) : Bool := decide (e.kind = 2 ∨ e.kind = 3)
def evEq (a b : Ev) : Bool := decide (a.kind ≠ 0 ∧ b.kind ≠ 0 ∧ a.blk = b.blk ∧ a.at_ = b.at_ ∧ a.size = b.size)
def withB (a f s : Int) : Bool := decide (f ≤ a ∧ a - f < s)
def evOver (a b : Ev) : Bool := decide (a.kind ≠ 0 ∧ b.kind ≠ 0 ∧ a.blk = b.blk ∧ 1 ≤ a.size ∧ 1 ≤ b.size) && (withB a.at_ b.at_ b.size || withB b.at_ a.at_ a.size)
def evCov (e : Ev) (b a : Int) : Bool := decide (e.kind ≠ 0 ∧ e.blk = b) && withB a e.at_ e.size
def evFields (e : Ev) : Bool :=
  if e.kind = 0 then !e.seq && !e.nt && decide (e.blk = 0 ∧ e.at_ = 0 ∧ e.size = 0) && e.rd.isEmpty && e.wr.isEmpty && e.fr.isEmpty
  else decide (e.kind = 1 ∨ e.kind = 2 ∨ e.kind = 3) && (decide (e.kind ≠ 3) || e.seq && e.nt) && decide (0 ≤ e.blk ∧ e.blk < 16 ∧ 1 ≤ e.size ∧ e.size ≤ 8 ∧ 0 ≤ e.at_ ∧ e.at_ ≤ 256 - e.size) &&
    decide ((e.rd.length : Int) = (if rdsB e then e.size else 0) ∧ (e.fr.length : Int) = (if rdsB e then e.size else 0) ∧ (e.wr.length : Int) = (if wrsB e then e.size else 0))
/-- Does byte i of event n read what was written? -/
def evRead1 (L : List Ev) (n i : Nat) : Bool :=
  let w := (evn L n).fr.getD i 0
  let x := (evn L n).rd.getD i 0
  if w = -1 then decide (x = 0)
  else if w < 0 ∨ (n : Int) ≤ w then false
  else wrsB (evn L w.toNat) && evCov (evn L w.toNat) (evn L n).blk ((evn L n).at_ + i) && ((evn L w.toNat).wr.getD ((evn L n).at_ + i - (evn L w.toNat).at_).toNat 0 == x)
def evReads (L : List Ev) (n : Nat) : Bool := (List.range (evn L n).fr.length).all fun i => evRead1 L n i
def evOk1 (L : List Ev) (n : Nat) : Bool := decide (0 ≤ (evn L n).ag ∧ (evn L n).ag < 64) && evFields (evn L n) && evReads L n
def prOk (n : Nat) (p : Int × Int) : Bool := decide (0 ≤ p.1 ∧ p.1 < p.2 ∧ p.2 < (n : Int))
def mayL (L : Lg) : Bool := decide (L.ev.length ≤ 1000 ∧ L.pr.length ≤ 1000) && ((List.range L.ev.length).all fun n => evOk1 L.ev n) && L.pr.all (prOk L.ev.length)

def prn (l : List (Int × Int)) (i : Nat) : Int × Int := l.getD i (0, 0)
theorem prn_eq {l : List (Int × Int)} {i : Nat} (h : i < l.length) : prn l i = l[i] := by simp [prn, h]

theorem mayL_iff {L : Lg} : mayL L = true ↔ (L.ev.length ≤ 1000 ∧ L.pr.length ≤ 1000) ∧ (∀ n, n < L.ev.length → evOk1 L.ev n = true) ∧ ∀ i, i < L.pr.length → prOk L.ev.length (prn L.pr i) = true := by
  unfold mayL
  simp only [Bool.and_eq_true, decide_eq_true_eq, List.all_eq_true, List.mem_range, and_assoc]
  refine and_congr_right fun _ => and_congr_right fun _ => and_congr_right fun _ => ⟨fun h i hi => ?_, fun h p hp => ?_⟩
  · rw [prn_eq hi]; exact h _ (List.getElem_mem hi)
  · obtain ⟨i, hi, rfl⟩ := List.getElem_of_mem hp
    have := h i hi
    rwa [prn_eq hi] at this
theorem evOk1_fields {L : List Ev} {n : Nat} (h : evOk1 L n = true) : evFields (evn L n) = true := by
  unfold evOk1 at h
  simp only [Bool.and_eq_true] at h
  exact h.1.2
theorem evReads_iff {L : List Ev} {n : Nat} : evReads L n = true ↔ ∀ i, i < (evn L n).fr.length → evRead1 L n i = true := by
  unfold evReads
  simp only [List.all_eq_true, List.mem_range]
theorem evOk1_reads {L : List Ev} {n : Nat} (h : evOk1 L n = true) : ∀ i, i < (evn L n).fr.length → evRead1 L n i = true := by
  unfold evOk1 at h
  simp only [Bool.and_eq_true] at h
  exact evReads_iff.1 h.2

/-- What an event with its kind's fields has. -/
theorem evFields_sizes {e : Ev} (h : evFields e = true) : e.fr.length ≤ 8 ∧ e.rd.length = e.fr.length ∧ 0 ≤ e.at_ ∧ e.at_ ≤ 256 ∧ 0 ≤ e.size ∧ e.size ≤ 8 ∧ 0 ≤ e.blk ∧ e.blk < 16 ∧ (wrsB e = true → (e.wr.length : Int) = e.size) ∧ (wrsB e = false → e.wr = []) ∧ (rdsB e = true → (e.fr.length : Int) = e.size) ∧ (rdsB e = false → e.fr = []) ∧ 0 ≤ e.kind ∧ e.kind ≤ 3 ∧ e.at_ + e.size ≤ 256 ∧ (e.kind ≠ 0 → 1 ≤ e.size) := by
  unfold evFields at h
  split at h
  · rename_i hk
    simp only [Bool.and_eq_true, decide_eq_true_eq, List.isEmpty_iff] at h
    obtain ⟨⟨⟨⟨⟨_, _⟩, h1, h2, h3⟩, h4⟩, h5⟩, h6⟩ := h
    have hw : wrsB e = false := by unfold wrsB; simp [hk]
    have hr : rdsB e = false := by unfold rdsB; simp [hk]
    rw [h4, h5, h6, h1, h2, h3, hk, hw, hr]
    simp
  · rename_i hk
    simp only [Bool.and_eq_true, decide_eq_true_eq] at h
    obtain ⟨⟨⟨h1, _⟩, h2⟩, h3, h4, h5⟩ := h
    have hz : ∀ b : Bool, (if b = true then e.size else 0) ≤ 8 ∧ 0 ≤ (if b = true then e.size else 0) := fun b => by cases b <;> simp <;> omega
    have z1 := hz (rdsB e)
    refine ⟨by omega, by omega, by omega, by omega, by omega, by omega, by omega, by omega, fun hw => ?_, fun hw => ?_, fun hr => ?_, fun hr => ?_, by omega, by omega, by omega, fun _ => by omega⟩
    · rw [hw, if_pos rfl] at h5; exact h5
    · rw [hw, if_neg (by simp)] at h5; exact List.eq_nil_of_length_eq_zero (by omega)
    · rw [hr, if_pos rfl] at h4; exact h4
    · rw [hr, if_neg (by simp)] at h4; exact List.eq_nil_of_length_eq_zero (by omega)
end Go.Ren
