/-
  ModelFlat, the plain law: what a flat memory does is valid. No condition.
-/
import Derived.Test.YthmkcgiiakinmaaModVal
import Derived.Test.YthmkcgiiakinmaaModLaws
namespace Go.Ren
set_option linter.unusedVariables false
def FlatSt (E : List Ev) (i : Nat) : Prop := ∃ a x s, evn E i = st16 a x s ∧ 0 ≤ a ∧ a ≤ 3
def FlatLd (E : List Ev) (i : Nat) : Prop := ∃ a x f s, evn E i = ld16 a x f s ∧ 0 ≤ a ∧ a ≤ 3 ∧
  ((f = -1 ∧ x = 0 ∧ ∀ j, j < i → wrsB (evn E j) = false) ∨ ∃ (j : Nat) (b : Int) (t : Bool), f = (j : Int) ∧ j < i ∧ evn E j = st16 b x t ∧ ∀ k, j < k → k < i → wrsB (evn E k) = false)
structure FlatOk (E : List Ev) (last : Int) (val : UInt8) : Prop where
  ev : ∀ i, i < E.length → FlatSt E i ∨ FlatLd E i
  last : (last = -1 ∧ val = 0 ∧ ∀ j, j < E.length → wrsB (evn E j) = false) ∨ ∃ (j : Nat) (b : Int) (t : Bool), last = (j : Int) ∧ j < E.length ∧ evn E j = st16 b val t ∧ ∀ k, j < k → k < E.length → wrsB (evn E k) = false
theorem evn_app_lt {E : List Ev} {e : Ev} {i : Nat} (h : i < E.length) : evn (E ++ [e]) i = evn E i := by simp [evn, List.getElem?_append_left h]
theorem evn_app_eq (E : List Ev) (e : Ev) : evn (E ++ [e]) E.length = e := by simp [evn]
theorem flat_nil : FlatOk [] (-1) 0 := ⟨fun i hi => absurd hi (Nat.not_lt_zero _), .inl ⟨rfl, rfl, fun j hj => absurd hj (Nat.not_lt_zero _)⟩⟩
theorem FlatOk.keep {E : List Ev} {last : Int} {val : UInt8} (h : FlatOk E last val) (e : Ev) {i : Nat} (hi : i < E.length) : FlatSt (E ++ [e]) i ∨ FlatLd (E ++ [e]) i := by
  rcases h.ev i hi with ⟨a, x, s, h1, h2⟩ | ⟨a, x, f, s, h1, h2, h3, h4⟩
  · exact .inl ⟨a, x, s, by rw [evn_app_lt hi]; exact h1, h2⟩
  · refine .inr ⟨a, x, f, s, by rw [evn_app_lt hi]; exact h1, h2, h3, ?_⟩
    rcases h4 with ⟨h5, h6, h7⟩ | ⟨j, b, t, h5, h6, h7, h8⟩
    · exact .inl ⟨h5, h6, fun j hj => by rw [evn_app_lt (by omega)]; exact h7 j hj⟩
    · exact .inr ⟨j, b, t, h5, h6, by rw [evn_app_lt (by omega)]; exact h7, fun k h9 h10 => by rw [evn_app_lt (by omega)]; exact h8 k h9 h10⟩
theorem FlatOk.st {E : List Ev} {last : Int} {val : UInt8} (h : FlatOk E last val) {a : Int} (h0 : 0 ≤ a) (h1 : a ≤ 3) (x : UInt8) (s : Bool) : FlatOk (E ++ [st16 a x s]) E.length x := by
  refine ⟨fun i hi => ?_, .inr ⟨E.length, a, s, rfl, by simp, evn_app_eq _ _, fun k h2 h3 => by simp at h3; omega⟩⟩
  by_cases e : i < E.length
  · exact h.keep _ e
  · obtain rfl : i = E.length := by simp at hi; omega
    exact .inl ⟨a, x, s, evn_app_eq _ _, h0, h1⟩
theorem FlatOk.ld {E : List Ev} {last : Int} {val : UInt8} (h : FlatOk E last val) {a : Int} (h0 : 0 ≤ a) (h1 : a ≤ 3) (s : Bool) : FlatOk (E ++ [ld16 a val last s]) last val := by
  have hw : wrsB (ld16 a val last s) = false := rfl
  refine ⟨fun i hi => ?_, ?_⟩
  · by_cases e : i < E.length
    · exact h.keep _ e
    · obtain rfl : i = E.length := by simp at hi; omega
      refine .inr ⟨a, val, last, s, evn_app_eq _ _, h0, h1, ?_⟩
      rcases h.last with ⟨h5, h6, h7⟩ | ⟨j, b, t, h5, h6, h7, h8⟩
      · exact .inl ⟨h5, h6, fun j hj => by rw [evn_app_lt hj]; exact h7 j hj⟩
      · exact .inr ⟨j, b, t, h5, h6, by rw [evn_app_lt h6]; exact h7, fun k h9 h10 => by rw [evn_app_lt h10]; exact h8 k h9 h10⟩
  · have key : ∀ k, k < (E ++ [ld16 a val last s]).length → (k < E.length → wrsB (evn E k) = false) → wrsB (evn (E ++ [ld16 a val last s]) k) = false := fun k hk hh => by
      by_cases e : k < E.length
      · rw [evn_app_lt e]; exact hh e
      · obtain rfl : k = E.length := by simp at hk; omega
        rw [evn_app_eq]; exact hw
    rcases h.last with ⟨h5, h6, h7⟩ | ⟨j, b, t, h5, h6, h7, h8⟩
    · exact .inl ⟨h5, h6, fun j hj => key j hj (h7 j)⟩
    · exact .inr ⟨j, b, t, h5, by simp; omega, by rw [evn_app_lt h6]; exact h7, fun k h9 h10 => key k h10 (fun e => h8 k h9 e)⟩
theorem flat_may {E : List Ev} {last : Int} {val : UInt8} (h : FlatOk E last val) (hl : E.length ≤ 40) : mayL ⟨E, []⟩ = true := by
  refine mayL_iff.2 ⟨⟨by show E.length ≤ 1000; omega, by simp⟩, fun i hi => ?_, fun i hi => absurd hi (Nat.not_lt_zero _)⟩
  have hi' : i < E.length := hi
  show evOk1 E i = true
  unfold evOk1
  rcases h.ev i hi' with ⟨a, x, s, h1, h2, h3⟩ | ⟨a, x, f, s, h1, h2, h3, h4⟩
  · rw [h1]
    simp only [Bool.and_eq_true, decide_eq_true_eq]
    refine ⟨⟨⟨h2, by show a < 64; omega⟩, by simp [st16, evFields, rdsB, wrsB]⟩, ?_⟩
    unfold evReads; rw [h1]; rfl
  · rw [h1]
    simp only [Bool.and_eq_true, decide_eq_true_eq]
    refine ⟨⟨⟨h2, by show a < 64; omega⟩, by simp [ld16, evFields, rdsB, wrsB]⟩, ?_⟩
    rw [evReads_iff]
    intro k hk
    rw [h1] at hk
    have hk0 : k = 0 := by simp [ld16] at hk; omega
    subst hk0
    unfold evRead1
    rw [h1]
    rcases h4 with ⟨rfl, rfl, _⟩ | ⟨j, b, t, rfl, h6, h7, _⟩
    · simp [ld16]
    · have e1 : ¬ ((j : Int) = -1) := by omega
      have e2 : ¬ ((j : Int) < 0 ∨ (i : Int) ≤ (j : Int)) := by omega
      simp only [ld16, List.getD_cons_zero]
      rw [if_neg e1, if_neg e2, Int.toNat_natCast, h7]
      simp [st16, wrsB, evCov, withB]
theorem flat_fr1 {E : List Ev} {last : Int} {val : UInt8} (h : FlatOk E last val) {i : Nat} (hi : i < E.length) : (evn E i).fr.length ≤ 1 := by
  rcases h.ev i hi with ⟨a, x, s, h1, _⟩ | ⟨a, x, f, s, h1, _⟩ <;> rw [h1] <;> simp [st16, ld16]
/-- Nothing is written between a load and what it reads. -/
theorem flat_between {E : List Ev} {last : Int} {val : UInt8} (h : FlatOk E last val) {r : Nat} (hr : r < E.length) (hf : 0 < (evn E r).fr.length) : (frn ⟨E, []⟩ r 0 = -1 ∧ ∀ j, j < r → wrsB (evn E j) = false) ∨ ∃ j : Nat, frn ⟨E, []⟩ r 0 = (j : Int) ∧ j < r ∧ ∀ k, j < k → k < r → wrsB (evn E k) = false := by
  rcases h.ev r hr with ⟨a, x, s, h1, _⟩ | ⟨a, x, f, s, h1, _, _, h4⟩
  · rw [h1] at hf; simp [st16] at hf
  · have e : frn ⟨E, []⟩ r 0 = f := by unfold frn; show (evn E r).fr.getD 0 0 = f; rw [h1]; rfl
    rw [e]
    rcases h4 with ⟨h5, _, h7⟩ | ⟨j, b, t, h5, h6, _, h8⟩
    · exact .inl ⟨h5, h7⟩
    · exact .inr ⟨j, h5, h6, h8⟩
theorem flat_val {E : List Ev} {last : Int} {val : UInt8} (h : FlatOk E last val) (hl : E.length ≤ 40) : valB ⟨E, []⟩ (natL ⟨E, []⟩) = true := by
  have hm := flat_may h hl
  have ho := nat_ordB hm
  have hc : cohI ⟨E, []⟩ = -1 := by
    unfold cohI
    rw [if_pos hm]
    refine fstN_none fun r hr => anyB_none.2 fun i hi => ?_
    have hr' : r < E.length := hr
    have h1 := flat_fr1 h hr'
    have hi' : i < (evn E r).fr.length := hi
    obtain rfl : i = 0 := by omega
    unfold cohP
    rw [Bool.or_eq_false_iff]
    constructor
    · rcases flat_between h hr' hi' with ⟨e, _⟩ | ⟨j, e, hj, _⟩
      · rw [e]; unfold hasB; simp
      · rw [e, hasB_nat hr (show j < E.length by omega)]
        cases hh : hbB ⟨E, []⟩ r j with
        | false => rfl
        | true => have := (hbB_lt hh).1; omega
    · refine anyB_none.2 fun v hv => ?_
      unfold hidP
      cases hw : wrsB (evn (Lg.mk E []).ev v) with
      | false => simp
      | true =>
        cases hh : hbB ⟨E, []⟩ v r with
        | false => simp
        | true =>
          have hvr := (hbB_lt hh).1
          rcases flat_between h hr' hi' with ⟨e, h2⟩ | ⟨j, e, hj, h2⟩
          · have := h2 v hvr; rw [show evn (Lg.mk E []).ev v = evn E v from rfl] at hw; rw [hw] at this; cases this
          · rw [e, hasB_nat (show j < E.length by omega) hv]
            cases h3 : hbB ⟨E, []⟩ j v with
            | false => simp
            | true =>
              have := h2 v (hbB_lt h3).1 hvr
              rw [show evn (Lg.mk E []).ev v = evn E v from rfl] at hw; rw [hw] at this; cases this
  have ht : tearI ⟨E, []⟩ = -1 := by
    unfold tearI
    rw [if_pos hm]
    refine fstN_none fun r hr => anyB_none.2 fun j hj => ?_
    have h1 := flat_fr1 h (show r < E.length from hr)
    have hj' : j < (evn E r).fr.length := hj
    obtain rfl : j = 0 := by omega
    rfl
  have ha : atoI ⟨E, []⟩ (natL ⟨E, []⟩) = -1 := by
    unfold atoI
    rw [if_pos ho]
    refine fstN_none fun r hr => anyB_none.2 fun i hi => ?_
    have hr' : r < E.length := hr
    have h1 := flat_fr1 h hr'
    have hi' : i < (evn E r).fr.length := hi
    obtain rfl : i = 0 := by omega
    unfold atoQ
    rcases flat_between h hr' hi' with ⟨e, h2⟩ | ⟨j, e, hj, h2⟩
    · rw [e]; rfl
    · rw [e, Int.toNat_natCast, anyB_none.2 fun v hv => ?_, Bool.and_false]
      unfold atoP
      rw [nat_posI hm (show j < E.length by omega), nat_posI hm hv, nat_posI hm hr]
      cases hw : wrsB (evn (Lg.mk E []).ev v) with
      | false => simp
      | true =>
        by_cases h3 : j < v ∧ v < r
        · have := h2 v h3.1 h3.2; rw [show evn (Lg.mk E []).ev v = evn E v from rfl] at hw; rw [hw] at this; cases this
        · have h4 : (decide ((j : Int) < (v : Int)) && decide ((v : Int) < (r : Int))) = false := by
            rw [← Bool.decide_and, decide_eq_false_iff_not]; omega
          simp only [Bool.and_assoc]
          cases h5 : decide ((j : Int) < (v : Int)) with
          | false => simp
          | true =>
            have h6 : decide ((v : Int) < (r : Int)) = false := by rw [h5, Bool.true_and] at h4; exact h4
            rw [h6]; simp
  unfold valB
  rw [hm, hc, ht, ho, ha]
  rfl
end Go.Ren
