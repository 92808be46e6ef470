/-
  The plain law of heads of logs. No condition, no program. Small tools on events and heads. No condition.
-/
import Derived.Test.YtbhocahmhmafmaaMEvHead
namespace Go.Ren
open Go.Proofs.Ytbhocahmhmafmaa
set_option linter.unusedVariables false
theorem evRead1_take {L : List Ev} {N n : Nat} (hn : n < N) (i : Nat) : evRead1 (L.take N) n i = evRead1 L n i := by
  unfold evRead1
  have e : ∀ k, k < N → evn (L.take N) k = evn L k := fun k hk => by simp [evn, hk]
  simp only [e n hn]
  split
  · rfl
  · split
    · rfl
    · rename_i h1 h2
      have : (List.getD (evn L n).fr i 0).toNat < N := by omega
      rw [e _ this]
theorem evOk1_take {L : List Ev} {N n : Nat} (hn : n < N) : evOk1 (L.take N) n = evOk1 L n := by
  have e : evn (L.take N) n = evn L n := by simp [evn, hn]
  unfold evOk1 evReads
  rw [e]
  congr 2
  funext i
  exact evRead1_take hn i
theorem headN_le (L : Lg) (n : Int) : headN L n ≤ L.ev.length := by unfold headN; omega
theorem head_evlen (L : Lg) (n : Int) : (headL L n).ev.length = headN L n := by simp [headL, headN]
theorem prOk_of {L : Lg} (h : mayL L = true) {p : Int × Int} (hp : p ∈ L.pr) : prOk L.ev.length p = true := by
  obtain ⟨i, hi, rfl⟩ := List.getElem_of_mem hp
  have := (mayL_iff.1 h).2.2 i hi
  rwa [prn_eq hi] at this
theorem mayL_head {L : Lg} (h : mayL L = true) (n : Int) : mayL (headL L n) = true := by
  obtain ⟨⟨h1, h2⟩, h3, h4⟩ := mayL_iff.1 h
  have hl := head_evlen L n
  have hN := headN_le L n
  refine mayL_iff.2 ⟨⟨by omega, Nat.le_trans (List.length_filter_le _ _) h2⟩, fun k hk => ?_, fun i hi => ?_⟩
  · rw [hl] at hk
    show evOk1 (L.ev.take (headN L n)) k = true
    rw [evOk1_take hk]; exact h3 k (by omega)
  · have hm : prn (headL L n).pr i ∈ L.pr.filter (inHead (headN L n)) := by rw [prn_eq hi]; exact List.getElem_mem hi
    obtain ⟨hm1, hm2⟩ := List.mem_filter.1 hm
    have ho := prOk_of h hm1
    unfold prOk at ho ⊢
    unfold inHead at hm2
    rw [hl]
    simp only [decide_eq_true_eq] at ho hm2 ⊢
    omega
theorem head_head (L : Lg) (n m : Int) : headL (headL L n) m = headL L (min n m) := by
  have hl := head_evlen L n
  have e : headN (headL L n) m = headN L (min n m) := by
    have : headN (headL L n) m = min m.toNat (headL L n).ev.length := rfl
    rw [this, hl]; unfold headN; omega
  have hle : headN L (min n m) ≤ headN L n := by unfold headN; omega
  have e1 : headL (headL L n) m = ⟨(headL L n).ev.take (headN (headL L n) m), (headL L n).pr.filter (inHead (headN (headL L n) m))⟩ := rfl
  rw [e1, e]
  show (⟨(L.ev.take (headN L n)).take _, (L.pr.filter (inHead (headN L n))).filter _⟩ : Lg) = ⟨L.ev.take (headN L (min n m)), L.pr.filter (inHead (headN L (min n m)))⟩
  rw [List.take_take, Nat.min_eq_left hle, List.filter_filter]
  congr 2
  funext p
  rw [Bool.eq_iff_iff]
  unfold inHead
  simp only [Bool.and_eq_true, decide_eq_true_eq]
  omega
theorem head_all {L : Lg} (h : mayL L = true) (n : Int) (hn : (L.ev.length : Int) ≤ n) : headL L n = L := by
  have e : headN L n = L.ev.length := by unfold headN; omega
  unfold headL
  rw [e, List.take_length]
  have hf : L.pr.filter (inHead L.ev.length) = L.pr := by
    rw [List.filter_eq_self]
    intro p hp
    have ho := prOk_of h hp
    unfold prOk at ho
    unfold inHead
    simp only [decide_eq_true_eq] at ho ⊢
    omega
  rw [hf]
theorem head_lenle (L : Lg) (n : Int) : ((headL L n).ev.length : Int) ≤ max n 0 := by
  rw [head_evlen]; unfold headN; omega
theorem small_head {L : Lg} (h : Small L) (n : Int) : Small (headL L n) := by
  have hl := head_evlen L n
  have hN := headN_le L n
  refine ⟨by have := h.ev; omega, Nat.le_trans (List.length_filter_le _ _) h.pr, fun i hi => ?_⟩
  rw [hl] at hi
  have e : evn (headL L n).ev i = evn L.ev i := by simp [evn, headL, hi]
  rw [e]; exact h.ls i (by omega)
theorem head_evn {L : Lg} {n : Int} {i : Nat} (hi : i < (headL L n).ev.length) : evn (headL L n).ev i = evn L.ev i := by
  rw [head_evlen] at hi
  simp [evn, headL, hi]
theorem head_prmem {L : Lg} {n : Int} {i : Nat} (hi : i < (headL L n).pr.length) : ∃ j, j < L.pr.length ∧ prn (headL L n).pr i = prn L.pr j := by
  have hm : prn (headL L n).pr i ∈ L.pr.filter (inHead (headN L n)) := by rw [prn_eq hi]; exact List.getElem_mem hi
  obtain ⟨j, hj, e⟩ := List.getElem_of_mem (List.mem_filter.1 hm).1
  exact ⟨j, hj, by rw [prn_eq hj, e]⟩
end Go.Ren
namespace Go.Ren
open Go.RowKit
theorem run_minI {P : Program} (a b : Int) (ts : Array TypeId) (ty : TypeId) (w : World) : (Builtin.min_ ts ty #[.int .i64 a, .int .i64 b]).run P w = .ok (.int .i64 (min a b)) w := by
  by_cases h : b < a
  · have e : min a b = b := by omega
    rw [e]; simp [Builtin.min_, Builtin.min2, h]
  · have e : min a b = a := by omega
    rw [e]; simp [Builtin.min_, Builtin.min2, h]
theorem run_maxI {P : Program} (a b : Int) (ts : Array TypeId) (ty : TypeId) (w : World) : (Builtin.max_ ts ty #[.int .i64 a, .int .i64 b]).run P w = .ok (.int .i64 (max a b)) w := by
  by_cases h : a < b
  · have e : max a b = b := by omega
    rw [e]; simp [Builtin.max_, Builtin.max2, h]
  · have e : max a b = a := by omega
    rw [e]; simp [Builtin.max_, Builtin.max2, h]
end Go.Ren
namespace Go.Proofs.Ytbhocahmhmafmaa
open Go.Ren Go.RowKit
set_option linter.unusedVariables false

theorem head_in {w w' : World} {ve vp hv pv : Value} {V V' : Nat → Vs} {L : Lg} {n : Int} (h : LogIn w ve vp V L) (o : LogOwn w' hv pv V' (headL L n)) : LogIn w' hv pv V' (headL L n) :=
  o.in_ (fun i hi => by rw [head_evn hi]; rw [head_evlen] at hi; exact (h.ev i (by have := headN_le L n; omega)).ok) (fun i hi => by obtain ⟨j, hj, e⟩ := head_prmem hi; rw [e]; exact h.pok j hj)

theorem i64_len {w : World} {v : Value} {sz n : Nat} {xs : List Value} (h : Sl w v sz n xs) : I64 (n : Int) := by
  obtain ⟨_, c, _, h1, h2, _⟩ := h.shape
  simp only [maxLen] at h2
  unfold I64; omega
theorem i64_min {a b : Int} (h1 : I64 a) (h2 : I64 b) : I64 (min a b) := by unfold I64 at *; omega
theorem evArr_all {e : Ev} {v : Vs} (h1 : v.r.oneCell' = true) (h2 : v.w.oneCell' = true) (h3 : v.f.oneCell' = true) : (evArr e v).all (·.oneCell') = true := by
  rw [Array.all_eq_true_iff_forall_mem]
  intro x hx
  exact one10 h1 h2 h3 x (Array.mem_toList_iff.2 hx)
end Go.Proofs.Ytbhocahmhmafmaa
