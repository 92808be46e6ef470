/-
  Regions that draw their order, walked along a plan: an order in which each operation is either taken first (it only reads what S fixes, or its guard says no) or is the only one that may come up. Over any program. No condition.
-/
import Derived.Deep.RegionHeld3
import Derived.WalkKit
namespace Go.Ren
open Go.RowKit
set_option linter.unusedVariables false

section
variable {P : Program} {ops : Array Oper} {Q : Exit → Act → World → Prop} {md : Region.Mode} {S : World → Prop}

def getO (d : Oper) : List Oper → Nat → Oper
  | [], _ => d
  | o :: _, 0 => o
  | _ :: l, n + 1 => getO d l n
theorem getO_eq (d : Oper) : ∀ (l : List Oper) (i : Nat), i < l.length → l[i]? = some (getO d l i)
  | [], i, h => by simp at h
  | o :: l, 0, _ => rfl
  | o :: l, i + 1, h => by simp only [List.getElem?_cons_succ, getO]; exact getO_eq d l i (by simpa using h)
def op0 : Oper := { dst := none, op := .move (.tmp 0), type := 0, pos := "", after := #[], guard := none }
def planL (l : List Oper) : List (Nat × Bool) → List (Oper × Bool)
  | [] => []
  | p :: r => (getO op0 l p.1, p.2) :: planL l r
/-- Does a plan fit a region? 'true': taken first; 'false': the only one that may come up. -/
def planOk (md : Region.Mode) (ops : Array Oper) : List (Nat × Bool) → Array Bool → Bool
  | [], listed => (Region.ready md ops listed).isEmpty
  | p :: r, listed => decide (p.1 < ops.toList.length) && (if p.2 then Region.free md ops listed p.1 && (Region.ready md ops listed).contains p.1 else Region.ready md ops listed == [p.1]) && planOk md ops r (listed.setIfInBounds p.1 true)

def wpPlan (P : Program) (ops : Array Oper) (Q : Exit → Act → World → Prop) (S : World → Prop) : List (Oper × Bool) → Act → World → Prop
  | [], a, w => Q .normal a w
  | (o, true) :: r, a, w => ∃ v, YieldsIf P ops S o v a ∧ wpPlan P ops Q S r (a.put o.dst v) w
  | (o, false) :: r, a, w => if Region.wanted o (yielded ops a.tmps) = true then o.wp P a w (fun a' w' => S w' ∧ wpPlan P ops Q S r a' w') Q else wpPlan P ops Q S r (a.put o.dst undef) w

theorem wpAnyH_plan (hs : Region.noSelect ops = true) (hQ : ∀ c d v a w, Q (.panic c) (Act.put a d v) w → Q (.panic c) a w) :
    ∀ (plan : List (Nat × Bool)) (listed : Array Bool) (a : Act) (w : World), planOk md ops plan listed = true → S w → wpPlan P ops Q S (planL ops.toList plan) a w → wpAnyH P md ops Q S plan.length listed a w
  | [], listed, a, w, hk, hS, h => wpAnyH_done (by simpa [planOk, List.isEmpty_iff] using hk) h 0
  | p :: r, listed, a, w, hk, hS, h => by
    obtain ⟨i, b⟩ := p
    simp only [planOk, Bool.and_eq_true, decide_eq_true_eq] at hk
    obtain ⟨⟨hi, hb⟩, hr⟩ := hk
    have ho : ops[i]? = some (getO op0 ops.toList i) := by rw [← getO_eq op0 _ _ hi]; simp
    cases b with
    | true =>
      simp only [if_true, Bool.and_eq_true] at hb
      obtain ⟨v, hy, hw⟩ := h
      exact wpAnyH_take ho hs hb.1 hb.2 (fun c a w => hQ c _ _ a w) hy hS (wpAnyH_plan hs hQ r _ _ _ hr hS hw)
    | false =>
      have hb' : Region.ready md ops listed = [i] := by simpa using hb
      refine wpAnyH_ready hb' (by simp) (AllReadyH.cons ho (fun K hK => ?_) AllReadyH.nil)
      simp only [planL, wpPlan] at h
      split
      · rename_i hw
        rw [if_pos hw] at h
        refine Oper.wp_mono (fun a' w' hh => ?_) h
        exact hK.out a' w' hh.1 (fun _ => wpAnyH_plan hs hQ r _ _ _ hr hh.1 hh.2)
      · rename_i hw
        rw [if_neg hw] at h
        exact hK.out _ _ hS (fun _ => wpAnyH_plan hs hQ r _ _ _ hr hS h)

/-- The beginning. -/
theorem wp_region_plan (plan : List (Nat × Bool)) (S : World → Prop) {id : Nat} {a : Act} {w : World} (hm : P.follows .mixedOrders = true) (hs : Region.noSelect ops = true) (hk : (planOk .any ops plan (Array.replicate ops.size false) && plan.length == ops.size) = true)
    (hQ : ∀ c d v a w, Q (.panic c) (Act.put a d v) w → Q (.panic c) a w) (hS : S w.drew) (h : wpPlan P ops Q S (planL ops.toList plan) a w.drew) : (Code.region id ops true).wp P Q a w := by
  simp only [Bool.and_eq_true, beq_iff_eq] at hk
  refine wp_region_held_drew (S := S) hm hS fun hS' => ?_
  have h2 := wpAnyH_plan hs hQ plan _ _ _ hk.1 hS' h
  rw [hk.2] at h2
  exact h2

theorem plan_nil {a : Act} {w : World} (h : Q .normal a w) : wpPlan P ops Q S [] a w := h
theorem plan_take {o : Oper} {r : List (Oper × Bool)} {a : Act} {w : World} {v : Value} (hw : Region.wanted o (yielded ops a.tmps) = true) (hy : ∀ w, S w → (execOp a.eval o).run P w = .ok (.value v) w) (h : wpPlan P ops Q S r (a.put o.dst v) w) : wpPlan P ops Q S ((o, true) :: r) a w :=
  ⟨v, .inl ⟨hw, hy⟩, h⟩
theorem plan_skip {o : Oper} {b : Bool} {r : List (Oper × Bool)} {a : Act} {w : World} (hw : Region.wanted o (yielded ops a.tmps) = false) (h : wpPlan P ops Q S r (a.put o.dst undef) w) : wpPlan P ops Q S ((o, b) :: r) a w := by
  cases b with
  | true => exact ⟨undef, .inr ⟨hw, rfl⟩, h⟩
  | false => simp only [wpPlan, hw, Bool.false_eq_true, if_false]; exact h
theorem plan_call {o : Oper} {r : List (Oper × Bool)} {a : Act} {w : World} (h : ∀ K' : Act → World → Prop, Shut (∀ a w, S w → wpPlan P ops Q S r a w → K' a w) → if Region.wanted o (yielded ops a.tmps) = true then Oper.wp P o a w K' Q else K' (a.put o.dst undef) w) : wpPlan P ops Q S ((o, false) :: r) a w := by
  simp only [wpPlan]
  have := h (fun a' w' => S w' ∧ wpPlan P ops Q S r a' w') (fun a' w' h1 h2 => ⟨h1, h2⟩)
  by_cases hw : Region.wanted o (yielded ops a.tmps) = true
  · rw [if_pos hw] at this ⊢; exact this
  · rw [if_neg hw] at this ⊢; exact this.2
end
end Go.Ren
