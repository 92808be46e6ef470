/-
  Small tools on events and heads. No condition.
-/
import Derived.Test.YthmkcgiiakinmaaEvHeadsLaw
namespace Go.Ren
open Go.RowKit
theorem run_minI {P : Program} (a b : Int) (ts : Array TypeId) (ty : TypeId) (w : World) : (Builtin.min_ ts ty #[.int .i64 a, .int .i64 b]).run P w = .ok (.int .i64 (min a b)) w := by
  by_cases h : b < a
  · have e : min a b = b := by omega
    rw [e]; simp [Builtin.min_, Builtin.min2, h]
  · have e : min a b = a := by omega
    rw [e]; simp [Builtin.min_, Builtin.min2, h]
theorem run_maxI {P : Program} (a b : Int) (ts : Array TypeId) (ty : TypeId) (w : World) : (Builtin.max_ ts ty #[.int .i64 a, .int .i64 b]).run P w = .ok (.int .i64 (max a b)) w := by
  by_cases h : a < b
  · have e : max a b = b := by omega
    rw [e]; simp [Builtin.max_, Builtin.max2, h]
  · have e : max a b = a := by omega
    rw [e]; simp [Builtin.max_, Builtin.max2, h]
end Go.Ren
namespace Go.Proofs.Ythmkcgiiakinmaa
open Go.Ren Go.RowKit
set_option linter.unusedVariables false

theorem head_in {w w' : World} {ve vp hv pv : Value} {V V' : Nat → Vs} {L : Lg} {n : Int} (h : LogIn w ve vp V L) (o : LogOwn w' hv pv V' (headL L n)) : LogIn w' hv pv V' (headL L n) :=
  o.in_ (fun i hi => by rw [head_evn hi]; rw [head_evlen] at hi; exact (h.ev i (by have := headN_le L n; omega)).ok) (fun i hi => by obtain ⟨j, hj, e⟩ := head_prmem hi; rw [e]; exact h.pok j hj)

theorem i64_len {w : World} {v : Value} {sz n : Nat} {xs : List Value} (h : Sl w v sz n xs) : I64 (n : Int) := by
  obtain ⟨_, c, _, h1, h2, _⟩ := h.shape
  simp only [maxLen] at h2
  unfold I64; omega
theorem i64_min {a b : Int} (h1 : I64 a) (h2 : I64 b) : I64 (min a b) := by unfold I64 at *; omega
theorem evArr_all {e : Ev} {v : Vs} (h1 : v.r.oneCell' = true) (h2 : v.w.oneCell' = true) (h3 : v.f.oneCell' = true) : (evArr e v).all (·.oneCell') = true := by
  rw [Array.all_eq_true_iff_forall_mem]
  intro x hx
  exact one10 h1 h2 h3 x (Array.mem_toList_iff.2 hx)
end Go.Proofs.Ythmkcgiiakinmaa
