/-
  What package race computes, on plain lists; the laws of chapter 17. No condition, no program. The contracts of slices.Index, slices.Contains at []int. No condition.
-/
import Derived.Test.YthmkcgiiakinmaaJRelTool
import Derived.Test.YthmkcgiiakinmaaJRelAt
import Derived.Test.YthmkcgiiakinmaaJEvLaw
namespace Go.Ren
set_option linter.unusedVariables false
def unB (L : Lg) (a b : Nat) : Bool := evOver (evn L.ev a) (evn L.ev b) && (wrsB (evn L.ev a) || wrsB (evn L.ev b)) && !hbB L a b && !hbB L b a && !((evn L.ev a).seq && (evn L.ev b).seq && evEq (evn L.ev a) (evn L.ev b))
theorem unB_comm (L : Lg) (a b : Nat) : unB L b a = unB L a b := by
  unfold unB
  rw [evOver_comm (evn L.ev a), evEq_comm (evn L.ev a), Bool.or_comm (wrsB (evn L.ev b)), Bool.and_comm (evn L.ev b).seq]
  cases hbB L a b <;> cases hbB L b a <;> simp
def twoB (L : Lg) (a b : Int) : Bool := mayL L && decide (0 ≤ a ∧ a < (L.ev.length : Int) ∧ 0 ≤ b ∧ b < (L.ev.length : Int) ∧ a ≠ b)
def cfB (L : Lg) (a b : Int) : Bool := twoB L a b && unB L a.toNat b.toNat
def rcB (L : Lg) (a b : Int) : Bool := (wrsB (evn L.ev a.toNat) && wrsB (evn L.ev b.toNat)) || (evn L.ev a.toNat).fr.contains b || (evn L.ev b.toNat).fr.contains a
def dtB (L : Lg) (a b : Int) : Bool := cfB L a b && rcB L a b
def cfR (L : Lg) (a b : Nat) : Bool := decide (a < b) && unB L a b
def cfL (L : Lg) : List (Int × Int) := if mayL L = true then listR L.ev.length (cfR L) else []
def dtL (L : Lg) : List (Int × Int) := (cfL L).filter fun p => rcB L p.1 p.2
def frS (f : Int) (p : Int × Int) : Int := if f < 0 ∨ p.2 < f - 1 then p.2 + 1 else f
def frL (l : List (Int × Int)) : Int := l.foldl frS (-1)
theorem twoB_comm (L : Lg) (a b : Int) : twoB L b a = twoB L a b := by
  unfold twoB
  congr 1
  rw [decide_eq_decide]
  omega
theorem cfB_comm (L : Lg) (a b : Int) : cfB L b a = cfB L a b := by unfold cfB; rw [twoB_comm, unB_comm]
theorem rcB_comm (L : Lg) (a b : Int) : rcB L b a = rcB L a b := by
  unfold rcB
  rw [Bool.and_comm (wrsB (evn L.ev b.toNat)), Bool.or_assoc, Bool.or_assoc]
  congr 1
  rw [Bool.or_comm]
theorem dtB_comm (L : Lg) (a b : Int) : dtB L b a = dtB L a b := by unfold dtB; rw [cfB_comm, rcB_comm]
theorem cfB_nat {L : Lg} {a b : Int} (h : cfB L a b = true) : mayL L = true ∧ ∃ x y : Nat, a = x ∧ b = y ∧ x < L.ev.length ∧ y < L.ev.length ∧ x ≠ y ∧ unB L x y = true := by
  unfold cfB twoB at h
  simp only [Bool.and_eq_true, decide_eq_true_eq] at h
  obtain ⟨⟨h1, h2⟩, h3⟩ := h
  exact ⟨h1, a.toNat, b.toNat, by omega, by omega, by omega, by omega, by omega, h3⟩
theorem unB_hb {L : Lg} {a b : Nat} (h : unB L a b = true) : hbB L a b = false ∧ hbB L b a = false := by
  unfold unB at h
  simp only [Bool.and_eq_true, Bool.not_eq_true'] at h
  exact ⟨h.1.1.2, h.1.2⟩
theorem agent_hb {L : Lg} {a b : Nat} (hab : a < b) (hb : b < L.ev.length) (h : (evn L.ev a).ag = (evn L.ev b).ag) : hbB L a b = true := hbB_step (by unfold stepB; simp [hab, hb, h])
theorem unB_agent {L : Lg} {a b : Nat} (ha : a < L.ev.length) (hb : b < L.ev.length) (hne : a ≠ b) (h : unB L a b = true) : (evn L.ev a).ag ≠ (evn L.ev b).ag := by
  intro e
  obtain ⟨h1, h2⟩ := unB_hb h
  rcases Nat.lt_or_gt_of_ne hne with hl | hl
  · rw [agent_hb hl hb e] at h1; cases h1
  · rw [agent_hb hl ha e.symm] at h2; cases h2
/-- P17.3, RaceTurns: what conflicts is not ordered. -/
theorem turns17 {L : Lg} {a b : Int} (h : cfB L a b = true) : a ≠ b ∧ hasB (relN L) (hbB L) a b = false ∧ hasB (relN L) (hbB L) b a = false ∧ (evn L.ev a.toNat).ag ≠ (evn L.ev b.toNat).ag := by
  obtain ⟨h1, x, y, rfl, rfl, h2, h3, h4, h5⟩ := cfB_nat h
  rw [relN_may h1, hasB_nat h2 h3, hasB_nat h3 h2]
  exact ⟨by omega, (unB_hb h5).1, (unB_hb h5).2, by simpa using unB_agent h2 h3 h4 h5⟩
theorem mem_cfL {L : Lg} {p : Int × Int} : p ∈ cfL L ↔ mayL L = true ∧ ∃ a b : Nat, p = ((a : Int), (b : Int)) ∧ a < b ∧ b < L.ev.length ∧ unB L a b = true := by
  unfold cfL
  split
  · rename_i h
    rw [mem_listR]
    simp only [h, true_and]
    constructor
    · rintro ⟨a, b, rfl, h1, h2, h3⟩
      unfold cfR at h3
      simp only [Bool.and_eq_true, decide_eq_true_eq] at h3
      exact ⟨a, b, rfl, h3.1, h2, h3.2⟩
    · rintro ⟨a, b, rfl, h1, h2, h3⟩
      exact ⟨a, b, rfl, by omega, h2, by unfold cfR; simp [h1, h3]⟩
  · rename_i h
    simp [h]
/-! Lists of pairs. -/
theorem range_filter_lt {q : Nat → Bool} {m n : Nat} (h : m ≤ n) : (List.range n).filter (fun b => decide (b < m) && q b) = (List.range m).filter q := by
  induction n with
  | zero => have : m = 0 := by omega
            subst this; rfl
  | succ n ih =>
    by_cases e : m = n + 1
    · subst e
      exact List.filter_congr fun b hb => by rw [List.mem_range] at hb; simp [hb]
    · rw [List.range_succ, List.filter_append, ih (by omega)]
      have : ¬ n < m := by omega
      simp [this]
theorem rowP_filter {R : Nat → Nat → Bool} {a m n : Nat} (h : m ≤ n) : (rowP R a n).filter (fun p => decide (p.2 < (m : Int))) = rowP R a m := by
  unfold rowP
  rw [List.filter_map, List.filter_filter, ← range_filter_lt h]
  congr 1
  refine List.filter_congr fun b _ => ?_
  simp only [Function.comp_apply]
  congr 1
  rw [decide_eq_decide]; omega
theorem listP_stop {R : Nat → Nat → Bool} {m : Nat} (hR : ∀ a b, R a b = true → a < b) {n : Nat} (h : m ≤ n) : listP R m n = listP R m m := by
  induction n with
  | zero => have : m = 0 := by omega
            subst this; rfl
  | succ n ih =>
    by_cases e : m = n + 1
    · subst e; rfl
    · rw [listP_succ, ih (by omega)]
      have : rowP R n m = [] := by
        unfold rowP
        rw [List.map_eq_nil_iff, List.filter_eq_nil_iff]
        intro b hb
        rw [List.mem_range] at hb
        intro hr
        have := hR _ _ hr
        omega
      rw [this, List.append_nil]
theorem filter_listP {R : Nat → Nat → Bool} {m n : Nat} (h : m ≤ n) (a : Nat) : (listP R n a).filter (fun p => decide (p.2 < (m : Int))) = listP R m a := by
  induction a with
  | zero => rfl
  | succ a ih => rw [listP_succ, listP_succ, List.filter_append, ih, rowP_filter h]
theorem filter_listR {R R' : Nat → Nat → Bool} {m n : Nat} (h : m ≤ n) (hR : ∀ a b, R a b = true → a < b) (e : ∀ a b, a < m → b < m → R a b = R' a b) : (listR n R).filter (fun p => decide (p.2 < (m : Int))) = listR m R' := by
  unfold listR
  rw [filter_listP h, listP_stop hR h]
  exact listP_congr (Nat.le_refl _) e
theorem rowP_mono {R R' : Nat → Nat → Bool} {a n : Nat} (e : ∀ b, b < n → R a b = true → R' a b = true) : (rowP R a n).length ≤ (rowP R' a n).length := by
  induction n with
  | zero => simp [rowP]
  | succ n ih =>
    have h1 := ih fun b hb => e b (by omega)
    cases h : R a n with
    | true =>
      rw [rowP_yes h, rowP_yes (e n (by omega) h)]
      simp only [List.length_append, List.length_singleton]
      omega
    | false =>
      rw [rowP_no h]
      cases h' : R' a n with
      | true => rw [rowP_yes h', List.length_append]; omega
      | false => rw [rowP_no h']; exact h1
theorem listP_mono {R R' : Nat → Nat → Bool} {a n : Nat} (ha : a ≤ n) (e : ∀ a b, a < n → b < n → R a b = true → R' a b = true) : (listP R n a).length ≤ (listP R' n a).length := by
  induction a with
  | zero => simp [listP]
  | succ a ih =>
    rw [listP_succ, listP_succ, List.length_append, List.length_append]
    have h1 := ih (by omega)
    have h2 := rowP_mono (R := R) (R' := R') (a := a) (n := n) fun b hb => e a b (by omega) hb
    omega
/-! Heads. -/
theorem head_unB {L : Lg} {n : Int} {a b : Nat} (ha : a < headN L n) (hb : b < headN L n) : unB (headL L n) a b = unB L a b := by
  unfold unB
  rw [head_evn' ha, head_evn' hb, head_hb ha, head_hb hb]
theorem cfR_lt {L : Lg} (a b : Nat) (h : cfR L a b = true) : a < b := by
  unfold cfR at h
  simp only [Bool.and_eq_true, decide_eq_true_eq] at h
  exact h.1
theorem head_cfL {L : Lg} (hm : mayL L = true) (n : Int) : cfL (headL L n) = (cfL L).filter (fun p => decide (p.2 < n)) := by
  unfold cfL
  rw [if_pos hm, if_pos (mayL_head hm n), head_evlen]
  rw [← filter_listR (R := cfR L) (R' := cfR (headL L n)) (headN_le L n) cfR_lt (fun a b ha hb => by unfold cfR; rw [head_unB ha hb])]
  refine List.filter_congr fun p hp => ?_
  obtain ⟨a, b, rfl, h1, h2, _⟩ := mem_listR.1 hp
  rw [decide_eq_decide]
  unfold headN
  dsimp only
  omega
theorem frS_le {f : Int} {p : Int × Int} (hp : 0 ≤ p.2) : 0 ≤ frS f p ∧ frS f p ≤ p.2 + 1 ∧ (0 ≤ f → frS f p ≤ f) ∧ (frS f p = p.2 + 1 ∨ (frS f p = f ∧ 0 ≤ f)) := by
  unfold frS
  split <;> omega
theorem frL_fold {l : List (Int × Int)} (hl : ∀ p ∈ l, 0 ≤ p.2) : ∀ f : Int, -1 ≤ f → (l = [] ∧ l.foldl frS f = f) ∨ (0 ≤ l.foldl frS f ∧ (∀ p ∈ l, l.foldl frS f ≤ p.2 + 1) ∧ (0 ≤ f → l.foldl frS f ≤ f) ∧ ((∃ p ∈ l, l.foldl frS f = p.2 + 1) ∨ (0 ≤ f ∧ l.foldl frS f = f))) := by
  induction l with
  | nil => exact fun f _ => .inl ⟨rfl, rfl⟩
  | cons p l ih =>
    intro f hf
    right
    have hp := hl p (List.mem_cons_self ..)
    obtain ⟨s1, s2, s3, s4⟩ := frS_le (f := f) hp
    rw [List.foldl_cons]
    rcases ih (fun q hq => hl q (List.mem_cons_of_mem _ hq)) (frS f p) (by omega) with ⟨e1, e2⟩ | ⟨h1, h2, h3, h4⟩
    · rw [e2]
      refine ⟨s1, fun q hq => ?_, s3, ?_⟩
      · rw [e1, List.mem_singleton] at hq; subst hq; exact s2
      · rcases s4 with s4 | s4
        · exact .inl ⟨p, List.mem_cons_self .., s4⟩
        · exact .inr ⟨s4.2, s4.1⟩
    · refine ⟨h1, fun q hq => ?_, fun hf0 => ?_, ?_⟩
      · rcases List.mem_cons.1 hq with e | e
        · subst e; have := h3 s1; omega
        · exact h2 q e
      · have := h3 s1; have := s3 hf0; omega
      · rcases h4 with ⟨q, hq, e⟩ | ⟨e1, e2⟩
        · exact .inl ⟨q, List.mem_cons_of_mem _ hq, e⟩
        · rcases s4 with s4 | s4
          · exact .inl ⟨p, List.mem_cons_self .., by omega⟩
          · exact .inr ⟨s4.2, by omega⟩
/-- The first conflict shows in the least head that has one. -/
theorem frL_law {l : List (Int × Int)} (hl : ∀ p ∈ l, 0 ≤ p.2) : (l = [] ∧ frL l = -1) ∨ (l ≠ [] ∧ 0 ≤ frL l ∧ (∃ p ∈ l, p.2 < frL l) ∧ ∀ p ∈ l, ¬ p.2 < frL l - 1) := by
  unfold frL
  rcases frL_fold hl (-1) (by omega) with ⟨e1, e2⟩ | ⟨h1, h2, h3, h4⟩
  · exact .inl ⟨e1, e2⟩
  · rcases h4 with ⟨p, hp, e⟩ | ⟨e, _⟩
    · refine .inr ⟨fun e0 => ?_, h1, ⟨p, hp, by omega⟩, fun q hq => by have := h2 q hq; omega⟩
      rw [e0] at hp; cases hp
    · omega
theorem cfL_pos {L : Lg} : ∀ p ∈ cfL L, 0 ≤ p.2 := by
  intro p hp
  obtain ⟨_, a, b, rfl, _⟩ := mem_cfL.1 hp
  dsimp only; omega
/-! RaceSeq. -/
theorem cfL_none {L : Lg} (h : ∀ a b, a < b → b < L.ev.length → unB L a b = false) : cfL L = [] := by
  rw [List.eq_nil_iff_forall_not_mem]
  intro p hp
  obtain ⟨_, a, b, rfl, h1, h2, h3⟩ := mem_cfL.1 hp
  rw [h a b h1 h2] at h3; cases h3
theorem alone_none {L : Lg} (h : ∀ i, i < L.ev.length → (evn L.ev i).ag = (evn L.ev 0).ag) : cfL L = [] :=
  cfL_none fun a b hab hb => by
    cases e : unB L a b with
    | false => rfl
    | true => exact absurd ((h a (by omega)).trans (h b hb).symm) (unB_agent (by omega) hb (by omega) e)
theorem same_none {L : Lg} (h : ∀ i, i < L.ev.length → (evn L.ev i).seq = true ∧ evEq (evn L.ev i) (evn L.ev 0) = true) : cfL L = [] :=
  cfL_none fun a b hab hb => by
    have h1 := h a (by omega)
    have h2 := h b hb
    have h3 : evEq (evn L.ev a) (evn L.ev b) = true := by
      have e1 := evEq_iff.1 h1.2
      have e2 := evEq_iff.1 h2.2
      exact evEq_iff.2 ⟨e1.1, e2.1, by omega, by omega, by omega⟩
    unfold unB
    rw [h1.1, h2.1, h3]
    simp
theorem loads_none {L : Lg} (h : ∀ i, i < L.ev.length → wrsB (evn L.ev i) = false) : cfL L = [] :=
  cfL_none fun a b hab hb => by
    unfold unB
    rw [h a (by omega), h b hb]
    simp
theorem pair_unB {L : Lg} {a b : Nat} (hab : a < b) (hb : b < L.ev.length) {x y : Nat} (h : unB (pairL L a b) x y = true) : unB L x y = true := by
  unfold unB at h ⊢
  rw [pair_hb hab hb, pair_hb hab hb] at h
  simp only [Bool.and_eq_true, Bool.not_eq_true', Bool.or_eq_false_iff] at h ⊢
  exact ⟨⟨⟨h.1.1.1, h.1.1.2.1⟩, h.1.2.1⟩, h.2⟩
theorem pair_cfL {L : Lg} (hm : mayL L = true) (hl : L.pr.length ≤ 999) {a b : Nat} (hab : a < b) (hb : b < L.ev.length) : (cfL (pairL L a b)).length ≤ (cfL L).length := by
  unfold cfL
  rw [if_pos hm, if_pos (pair_may hm hl hab hb)]
  exact listP_mono (Nat.le_refl _) fun x y _ _ h => by
    unfold cfR at h ⊢
    simp only [Bool.and_eq_true, decide_eq_true_eq] at h ⊢
    exact ⟨h.1, pair_unB hab hb h.2⟩
theorem pair_cfB {L : Lg} {a b : Nat} (hab : a < b) (hb : b < L.ev.length) : cfB (pairL L a b) a b = false := by
  have : unB (pairL L a b) a b = false := by
    unfold unB
    rw [pair_hb hab hb a b]
    simp
  unfold cfB
  rw [Int.toNat_natCast, Int.toNat_natCast, this, Bool.and_false]
end Go.Ren
namespace Go.Proofs.Ythmkcgiiakinmaa
open Go.Ren Go.RowKit
set_option linter.unusedVariables false

def IdxPost (l : List Int) (x : Int) (w : World) (e : Ending) (w' : World) : Prop := ∃ r : Int, e = .returned (.int .i64 r) ∧ decide (0 ≤ r) = l.contains x ∧ Ext w w'
set_option maxRecDepth 100000 in
theorem index_any (w : World) (v : Value) (l : List Int) (h : IntsAt w v l) (x : Int) :
    Calls Try.prog 104 #[v, .int .i64 x] w (IdxPost l x w) := by
  have l1 := h.sl.run_len (P := Try.prog) II.und 3
  have I1 := Lib.hid (h.sl.run_idx (P := Try.prog) II.und II.size .i64)
  have hm : (l.length : Int) ≤ 9223372036854775807 := by obtain ⟨_, c, _, q1, q2, _⟩ := h.sl.shape; simp only [maxLen] at q2; omega
  have HV := Lib.hid h
  clear h
  go_enter Try.func104, Try.ntmps104
  go_wp2_with fail
  go_loopw [8] (fun s wr => ∃ k : Nat, k ≤ l.length ∧ s = .int .i64 (k : Int) ∧ (∀ j, (hj : j < k) → (hl : j < l.length) → l[j] ≠ x) ∧ Ext w wr) (fun s _ => l.length - (intOf s).toNat)
  case atStart => exact ⟨0, Nat.zero_le _, rfl, fun j hj => absurd hj (Nat.not_lt_zero _), Mod.refl _ _⟩
  case round =>
    obtain ⟨k, hk, rfl, hn, X⟩ := hrel
    have HN := Lib.hid (And.intro hn X)
    clear hn
    by_cases hkl : k < l.length
    · have hkl' : (k : Int) < (l.length : Int) := by omega
      have j0 := I1.out k hkl
      simp only [Nat.mul_one] at j0
      have c0 := (HV.out.ext X).cell hkl
      clear X
      obtain ⟨y, hy⟩ : ∃ y, y = l[k] := ⟨_, rfl⟩
      rw [← hy] at c0
      by_cases he : x = y
      · have ht : (x == y) = true := by simpa using he
        have HR : Hid (decide (0 ≤ (k : Int)) = l.contains x) := Lib.hid (by
          have : l.contains x = true := by rw [List.contains_iff_mem, he, hy]; exact List.getElem_mem hkl
          rw [this, decide_eq_true_eq]; omega)
        clear he hy
        go_wp2_with fail
        go_ret
        exact ⟨k, rfl, HR.out, HN.out.2⟩
      · have ht : (x == y) = false := by simpa using he
        have HS : Hid (∀ j, (hj : j < k + 1) → (hl : j < l.length) → l[j] ≠ x) := Lib.hid (fun j hj hl => by
          by_cases e : j = k
          · subst e; rw [← hy]; exact fun h => he h.symm
          · exact HN.out.1 j (by omega) hl)
        clear he hy
        go_wp2_with fail
        go_roundw
        case rel => exact ⟨k + 1, by omega, by go_num, HS.out, HN.out.2⟩
        case measure => simp [intOf]; omega
    · have hkl' : ¬ (k : Int) < (l.length : Int) := by omega
      have HR : Hid (decide (0 ≤ (-1 : Int)) = l.contains x) := Lib.hid (by
        have : l.contains x = false := by
          cases hc : l.contains x with
          | false => rfl
          | true =>
            rw [List.contains_iff_mem] at hc
            obtain ⟨j, hj, e⟩ := List.getElem_of_mem hc
            exact absurd e (HN.out.1 j (by omega) hj)
        rw [this]; decide)
      clear X
      go_wp2_with fail
      go_ret
      exact ⟨-1, rfl, HR.out, HN.out.2⟩
set_option maxRecDepth 100000 in
theorem contains_any (w : World) (v : Value) (l : List Int) (h : IntsAt w v l) (x : Int) :
    Calls Try.prog 91 #[v, .int .i64 x] w (FPost (l.contains x) w) := by
  have HV := Lib.hid h
  clear h
  go_enter Try.func91, Try.ntmps91
  go_wp2_with fail
  refine (index_any _ v l HV.out x).mono ?_
  rintro e w1 ⟨r, rfl, hr, x1⟩
  have HR := Lib.hid (And.intro hr x1)
  clear hr
  go_wp2_with fail
  go_ret
  exact ⟨ret_bool (by rw [← HR.out.1]), x1⟩
end Go.Proofs.Ythmkcgiiakinmaa
