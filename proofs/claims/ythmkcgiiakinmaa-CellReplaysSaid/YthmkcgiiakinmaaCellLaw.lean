/-
  What cells compute, on plain lists. No condition, no program.
-/
import Derived.Test.YthmkcgiiakinmaaEvLaw
import Derived.Test.YthmkcgiiakinmaaWordLaw
namespace Go.Ren
set_option linter.unusedVariables false
def kindC (s : Int) : Int := if s = 1 then 2 else if s = 2 then 4 else if s = 4 then 6 else if s = 8 then 8 else 0
def goodB (s : Int) : Bool := decide (s = 1 ∨ s = 2 ∨ s = 4 ∨ s = 8)
theorem kindC_good (s : Int) : (kindC s == 0) = !goodB s := by
  unfold kindC goodB
  rw [Bool.eq_iff_iff]
  split <;> (try split) <;> (try split) <;> (try split) <;> simp <;> omega
theorem goodB_le {s : Int} (h : goodB s = true) : 1 ≤ s ∧ s ≤ 8 := by unfold goodB at h; simp at h; omega
def ldE (b a s : Int) : Ev := ⟨0, 1, false, false, b, a, s, [], [], []⟩
/-- Is an event unclean for a cell? -/
def cl1 (e x : Ev) : Bool := evOver e x && (!e.seq || !evEq e x)
def cleanB (L : Lg) (x : Ev) : Bool := mayL L && goodB x.size && (List.range L.ev.length).all fun i => !cl1 (evn L.ev i) x
theorem clean_no {L : Lg} {x : Ev} (h : mayL L = false ∨ goodB x.size = false) : cleanB L x = false := by
  unfold cleanB; rcases h with h | h <;> rw [h] <;> simp
theorem clean_yes {L : Lg} {x : Ev} (h1 : mayL L = true) (h2 : goodB x.size = true) (h : ∀ j, j < L.ev.length → cl1 (evn L.ev j) x = false) : cleanB L x = true := by
  unfold cleanB
  rw [h1, h2, Bool.true_and, Bool.true_and, List.all_eq_true]
  intro j hj
  rw [h j (List.mem_range.1 hj)]; rfl
theorem clean_hit {L : Lg} {x : Ev} {r : Nat} (hr : r < L.ev.length) (h : cl1 (evn L.ev r) x = true) : cleanB L x = false := by
  unfold cleanB
  cases hm : mayL L <;> cases hg : goodB x.size <;> try rfl
  rw [Bool.true_and, Bool.true_and]
  cases ha : (List.range L.ev.length).all fun i => !cl1 (evn L.ev i) x with
  | false => rfl
  | true =>
    rw [List.all_eq_true] at ha
    have := ha r (List.mem_range.2 hr)
    rw [h] at this; cases this
theorem clean_facts {L : Lg} {x : Ev} (h : cleanB L x = true) : mayL L = true ∧ goodB x.size = true := by
  unfold cleanB at h
  simp only [Bool.and_eq_true] at h
  exact h.1
/-- The cell's bytes behind so many events. -/
def repS (L : Lg) (x : Ev) : Nat → List UInt8
  | 0 => List.replicate x.size.toNat 0
  | k + 1 => if (evEq (evn L.ev k) x && wrsB (evn L.ev k)) = true then (evn L.ev k).wr else repS L x k
def rep1 (L : Lg) (x : Ev) (k : Nat) : Bool := evEq (evn L.ev k) x && (rdsB (evn L.ev k) && !((evn L.ev k).rd == repS L x k))
def repB (L : Lg) (x : Ev) : Bool := cleanB L x && (List.range L.ev.length).all fun k => !rep1 L x k
theorem rep_no {L : Lg} {x : Ev} (h : cleanB L x = false) : repB L x = false := by unfold repB; rw [h]; rfl
theorem rep_yes {L : Lg} {x : Ev} (h1 : cleanB L x = true) (h : ∀ j, j < L.ev.length → rep1 L x j = false) : repB L x = true := by
  unfold repB
  rw [h1, Bool.true_and, List.all_eq_true]
  intro j hj
  rw [h j (List.mem_range.1 hj)]; rfl
theorem rep_hit {L : Lg} {x : Ev} {r : Nat} (hr : r < L.ev.length) (h : rep1 L x r = true) : repB L x = false := by
  unfold repB
  cases hm : cleanB L x <;> try rfl
  rw [Bool.true_and]
  cases ha : (List.range L.ev.length).all fun i => !rep1 L x i with
  | false => rfl
  | true =>
    rw [List.all_eq_true] at ha
    have := ha r (List.mem_range.2 hr)
    rw [h] at this; cases this
theorem rep_skip {L : Lg} {x : Ev} {r : Nat} (h : evEq (evn L.ev r) x = false) : rep1 L x r = false ∧ repS L x (r + 1) = repS L x r := by
  refine ⟨by unfold rep1; rw [h]; rfl, ?_⟩
  show (if (evEq (evn L.ev r) x && wrsB (evn L.ev r)) = true then _ else _) = _
  rw [h]; rfl
theorem rep_next {L : Lg} {x : Ev} {r : Nat} (h : evEq (evn L.ev r) x = true) : repS L x (r + 1) = if wrsB (evn L.ev r) = true then (evn L.ev r).wr else repS L x r := by
  show (if (evEq (evn L.ev r) x && wrsB (evn L.ev r)) = true then _ else _) = _
  rw [h, Bool.true_and]
theorem rep_len {L : Lg} {x : Ev} (h : cleanB L x = true) : ∀ k, k ≤ L.ev.length → ((repS L x k).length : Int) = x.size ∧ x.size ≤ 8
  | 0, _ => by
    have h1 := (clean_facts h).2
    unfold goodB at h1
    simp only [decide_eq_true_eq] at h1
    show ((List.replicate x.size.toNat (0 : UInt8)).length : Int) = _ ∧ _
    rw [List.length_replicate]
    omega
  | k + 1, hk => by
    have ih := rep_len h k (by omega)
    have hf := evFields_sizes (evOk1_fields ((mayL_iff.1 (clean_facts h).1).2.1 k (by omega)))
    cases hq : evEq (evn L.ev k) x with
    | false => rw [(rep_skip hq).2]; exact ih
    | true =>
      rw [rep_next hq]
      cases hw : wrsB (evn L.ev k) with
      | false => rw [if_neg (by simp)]; exact ih
      | true =>
        rw [if_pos rfl]
        have h1 := hf.2.2.2.2.2.2.2.2.1 hw
        unfold evEq at hq
        simp only [decide_eq_true_eq] at hq
        refine ⟨by rw [h1]; exact hq.2.2.2.2, ih.2⟩
theorem rd_len {L : Lg} {x : Ev} (h : cleanB L x = true) {k : Nat} (hk : k < L.ev.length) (hq : evEq (evn L.ev k) x = true) (hr : rdsB (evn L.ev k) = true) : ((evn L.ev k).rd.length : Int) = x.size := by
  have hf := evFields_sizes (evOk1_fields ((mayL_iff.1 (clean_facts h).1).2.1 k hk))
  have h1 := hf.2.2.2.2.2.2.2.2.2.2.1 hr
  unfold evEq at hq
  simp only [decide_eq_true_eq] at hq
  rw [hf.2.1, h1]; exact hq.2.2.2.2
theorem wr_len {L : Lg} {x : Ev} (h : cleanB L x = true) {k : Nat} (hk : k < L.ev.length) : (evn L.ev k).wr.length ≤ 8 ∧ (evn L.ev k).rd.length ≤ 8 := by
  have hf := evFields_sizes (evOk1_fields ((mayL_iff.1 (clean_facts h).1).2.1 k hk))
  refine ⟨?_, by omega⟩
  cases hw : wrsB (evn L.ev k) with
  | false => rw [hf.2.2.2.2.2.2.2.2.2.1 hw]; simp
  | true => have := hf.2.2.2.2.2.2.2.2.1 hw; omega
/-- Words of one length tell the bytes. -/
theorem rep_word {L : Lg} {x : Ev} (h : cleanB L x = true) {k : Nat} (hk : k < L.ev.length) (hq : evEq (evn L.ev k) x = true) (hr : rdsB (evn L.ev k) = true) : (((wordN (evn L.ev k).rd : Nat) : Int) != ((wordN (repS L x k) : Nat) : Int)) = !((evn L.ev k).rd == repS L x k) := by
  have h1 := rd_len h hk hq hr
  have h2 := (rep_len h k (by omega)).1
  rw [Bool.eq_iff_iff]
  simp only [bne_iff_ne, ne_eq, Bool.not_eq_true', beq_eq_false_iff_ne, Int.ofNat_inj]
  constructor
  · exact fun hn e => hn (by rw [e])
  · exact fun hn e => hn (wordN_inj _ _ (by omega) e)
theorem rep1_of {L : Lg} {x : Ev} {k : Nat} {b c : Bool} (hq : evEq (evn L.ev k) x = true) (hr : rdsB (evn L.ev k) = b) (hc : ((evn L.ev k).rd == repS L x k) = c) : rep1 L x k = (b && !c) := by
  unfold rep1; rw [hq, hr, hc, Bool.true_and]
end Go.Ren
