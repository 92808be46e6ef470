/-
  Regions that draw their order, walked along a plan: an order in which each operation is either taken first (it only reads what S fixes, or its guard says no) or is the only one that may come up. Over any program. No condition. Regions that draw their order, walked along a plan, with late operations (stores) behind which the facts on memory need not hold. Over any program. No condition. Regions that draw their order, walked along a tree: an operation is taken first, or the walk forks over all that may come up. Over any program. No condition.
-/
import Derived.Deep.RegionHeld3
import Derived.WalkKit
import Derived.Test.YtbhocahmhmafmaaGreatPLib
namespace Go.Ren
open Go.RowKit
set_option linter.unusedVariables false
section
variable {P : Program} {ops : Array Oper} {Q : Exit → Act → World → Prop} {md : Region.Mode} {S : World → Prop}
def getO (d : Oper) : List Oper → Nat → Oper
 | [], _ => d
 | o :: _, 0 => o
 | _ :: l, n + 1 => getO d l n
theorem getO_eq (d : Oper) : ∀ (l : List Oper) (i : Nat), i < l.length → l[i]? = some (getO d l i)
 | [], i, h => by simp at h
 | o :: l, 0, _ => rfl
 | o :: l, i + 1, h => by simp only [List.getElem?_cons_succ, getO]; exact getO_eq d l i (by simpa using h)
def op0 : Oper := { dst := none, op := .move (.tmp 0), type := 0, pos := "", after := #[], guard := none }
def planL (l : List Oper) : List (Nat × Bool) → List (Oper × Bool)
 | [] => []
 | p :: r => (getO op0 l p.1, p.2) :: planL l r
def planOk (md : Region.Mode) (ops : Array Oper) : List (Nat × Bool) → Array Bool → Bool
 | [], listed => (Region.ready md ops listed).isEmpty
 | p :: r, listed => decide (p.1 < ops.toList.length) && (if p.2 then Region.free md ops listed p.1 && (Region.ready md ops listed).contains p.1 else Region.ready md ops listed == [p.1]) && planOk md ops r (listed.setIfInBounds p.1 true)
def wpPlan (P : Program) (ops : Array Oper) (Q : Exit → Act → World → Prop) (S : World → Prop) : List (Oper × Bool) → Act → World → Prop
 | [], a, w => Q .normal a w
 | (o, true) :: r, a, w => ∃ v, YieldsIf P ops S o v a ∧ wpPlan P ops Q S r (a.put o.dst v) w
 | (o, false) :: r, a, w => if Region.wanted o (yielded ops a.tmps) = true then o.wp P a w (fun a' w' => S w' ∧ wpPlan P ops Q S r a' w') Q else wpPlan P ops Q S r (a.put o.dst undef) w
theorem wpAnyH_plan (hs : Region.noSelect ops = true) (hQ : ∀ c d v a w, Q (.panic c) (Act.put a d v) w → Q (.panic c) a w) :
 ∀ (plan : List (Nat × Bool)) (listed : Array Bool) (a : Act) (w : World), planOk md ops plan listed = true → S w → wpPlan P ops Q S (planL ops.toList plan) a w → wpAnyH P md ops Q S plan.length listed a w
 | [], listed, a, w, hk, hS, h => wpAnyH_done (by simpa [planOk, List.isEmpty_iff] using hk) h 0
 | p :: r, listed, a, w, hk, hS, h => by
  obtain ⟨i, b⟩ := p
  simp only [planOk, Bool.and_eq_true, decide_eq_true_eq] at hk
  obtain ⟨⟨hi, hb⟩, hr⟩ := hk
  have ho : ops[i]? = some (getO op0 ops.toList i) := by rw [← getO_eq op0 _ _ hi]; simp
  cases b with
  | true =>
   simp only [if_true, Bool.and_eq_true] at hb
   obtain ⟨v, hy, hw⟩ := h
   exact wpAnyH_take ho hs hb.1 hb.2 (fun c a w => hQ c _ _ a w) hy hS (wpAnyH_plan hs hQ r _ _ _ hr hS hw)
  | false =>
   have hb' : Region.ready md ops listed = [i] := by simpa using hb
   refine wpAnyH_ready hb' (by simp) (AllReadyH.cons ho (fun K hK => ?_) AllReadyH.nil)
   simp only [planL, wpPlan] at h
   split
   · rename_i hw
     rw [if_pos hw] at h
     refine Oper.wp_mono (fun a' w' hh => ?_) h
     exact hK.out a' w' hh.1 (fun _ => wpAnyH_plan hs hQ r _ _ _ hr hh.1 hh.2)
   · rename_i hw
     rw [if_neg hw] at h
     exact hK.out _ _ hS (fun _ => wpAnyH_plan hs hQ r _ _ _ hr hS h)
theorem wp_region_plan (plan : List (Nat × Bool)) (S : World → Prop) {id : Nat} {a : Act} {w : World} (hm : P.follows .mixedOrders = true) (hs : Region.noSelect ops = true) (hk : (planOk .any ops plan (Array.replicate ops.size false) && plan.length == ops.size) = true)
 (hQ : ∀ c d v a w, Q (.panic c) (Act.put a d v) w → Q (.panic c) a w) (hS : S w.drew) (h : wpPlan P ops Q S (planL ops.toList plan) a w.drew) : (Code.region id ops true).wp P Q a w := by
 simp only [Bool.and_eq_true, beq_iff_eq] at hk
 refine wp_region_held_drew (S := S) hm hS fun hS' => ?_
 have h2 := wpAnyH_plan hs hQ plan _ _ _ hk.1 hS' h
 rw [hk.2] at h2
 exact h2
theorem plan_nil {a : Act} {w : World} (h : Q .normal a w) : wpPlan P ops Q S [] a w := h
theorem plan_take {o : Oper} {r : List (Oper × Bool)} {a : Act} {w : World} {v : Value} (hw : Region.wanted o (yielded ops a.tmps) = true) (hy : ∀ w, S w → (execOp a.eval o).run P w = .ok (.value v) w) (h : wpPlan P ops Q S r (a.put o.dst v) w) : wpPlan P ops Q S ((o, true) :: r) a w :=
 ⟨v, .inl ⟨hw, hy⟩, h⟩
theorem plan_skip {o : Oper} {b : Bool} {r : List (Oper × Bool)} {a : Act} {w : World} (hw : Region.wanted o (yielded ops a.tmps) = false) (h : wpPlan P ops Q S r (a.put o.dst undef) w) : wpPlan P ops Q S ((o, b) :: r) a w := by
 cases b with
 | true => exact ⟨undef, .inr ⟨hw, rfl⟩, h⟩
 | false => simp only [wpPlan, hw, Bool.false_eq_true, if_false]; exact h
theorem plan_call {o : Oper} {r : List (Oper × Bool)} {a : Act} {w : World} (h : ∀ K' : Act → World → Prop, Shut (∀ a w, S w → wpPlan P ops Q S r a w → K' a w) → if Region.wanted o (yielded ops a.tmps) = true then Oper.wp P o a w K' Q else K' (a.put o.dst undef) w) : wpPlan P ops Q S ((o, false) :: r) a w := by
 simp only [wpPlan]
 have := h (fun a' w' => S w' ∧ wpPlan P ops Q S r a' w') (fun a' w' h1 h2 => ⟨h1, h2⟩)
 by_cases hw : Region.wanted o (yielded ops a.tmps) = true
 · rw [if_pos hw] at this ⊢; exact this
 · rw [if_neg hw] at this ⊢; exact this.2
end
end Go.Ren
namespace Go.Ren
open Go.RowKit
set_option linter.unusedVariables false
section
variable {P : Program} {ops : Array Oper} {Q : Exit → Act → World → Prop} {md : Region.Mode} {S : Array Bool → World → Prop}
def wpAnyI (P : Program) (md : Region.Mode) (ops : Array Oper) (Q : Exit → Act → World → Prop) (S : Array Bool → World → Prop) : Nat → Array Bool → Act → World → Prop
 | 0, listed, a, w => Region.ready md ops listed = [] ∧ Q .normal a w
 | fuel + 1, listed, a, w =>
  (Region.ready md ops listed = [] → Q .normal a w) ∧
  ∀ i ∈ Region.ready md ops listed, wpOp P ops Q i (fun a' w' => S (listed.setIfInBounds i true) w' ∧ wpAnyI P md ops Q S fuel (listed.setIfInBounds i true) a' w') a w
theorem wpAny_of_I : ∀ (fuel : Nat) (listed : Array Bool) (a : Act) (w : World), wpAnyI P md ops Q S fuel listed a w → wpAny P md ops Q fuel listed a w
 | 0, _, _, _, h => h
 | fuel + 1, _, _, _, h => ⟨h.1, fun i hi => wpOp_mono (fun a' w' h' => wpAny_of_I fuel _ a' w' h'.2) (h.2 i hi)⟩
theorem wpAnyI_first {i : Nat} {oi : Oper} {v : Value} (W : List Nat) (S0 : World → Prop) (hi : ops[i]? = some oi) (hsel : ∀ (j : Nat) (o : Oper) cs b, ops[j]? = some o → o.op ≠ .select cs b)
 (hQ : ∀ c a w, Q (.panic c) (a.put oi.dst v) w → Q (.panic c) a w)
 (hW : ∀ j oj, j ∈ W → j ≠ i → ops[j]? = some oj → ∃ e ∈ oj.after, Region.binds md e = true ∧ e.on ∈ W)
 (hS0 : ∀ listed w, (∀ j ∈ W, listed.getD j true = false) → S listed w → S0 w) (hSi : ∀ listed w, S (listed.setIfInBounds i true) w → S listed w) :
 ∀ (fuel : Nat) (listed : Array Bool) (a : Act) (w : World),
  (∀ j oj, ops[j]? = some oj → j ≠ i → listed.getD j true = false → (∀ e ∈ oj.after, Region.binds md e = true → e.on ≠ i) → oi.apart ops oj = true) →
  i ∈ Region.ready md ops listed → (∀ j ∈ W, listed.getD j true = false) → YieldsIf P ops S0 oi v a → S listed w → S (listed.setIfInBounds i true) w →
  wpAnyI P md ops Q S fuel (listed.setIfInBounds i true) (a.put oi.dst v) w → wpAnyI P md ops Q S (fuel + 1) listed a w := by
 intro fuel
 induction fuel with
 | zero =>
  intro listed a w _ hr hWl hy hS hS' H
  refine ⟨fun h => (by rw [h] at hr; cases hr), fun j hj => ?_⟩
  by_cases hji : j = i
  · subst hji; exact hy.wpOp hi (hS0 _ _ hWl hS) ⟨hS', H⟩
  · have := ready_mono hj hji
    rw [H.1] at this
    cases this
 | succ fuel ih =>
  intro listed a w hfree hr hWl hy hS hS' H
  refine ⟨fun h => (by rw [h] at hr; cases hr), fun j hj => ?_⟩
  by_cases hji : j = i
  · subst hji; exact hy.wpOp hi (hS0 _ _ hWl hS) ⟨hS', H⟩
  · have h1 := H.2 j (ready_mono hj hji)
    obtain ⟨hjun, oj, hoj, hall⟩ := mem_ready.1 hj
    have unl : ∀ e ∈ oj.after, Region.binds md e = true → listed.getD e.on true = false → False := fun e he hb h0 => by
     have h1 := hall e he hb
     rcases Nat.lt_or_ge e.on listed.size with h' | h'
     · simp [h'] at h0 h1; rw [h0] at h1; cases h1
     · simp [Array.getElem?_eq_none h'] at h1
    have hnot : ∀ e ∈ oj.after, Region.binds md e = true → e.on ≠ i := fun e he hb heq => unl e he hb (by rw [heq]; exact (mem_ready.1 hr).1)
    have hjW : j ∉ W := fun hjW => by
     obtain ⟨e, he, hb, hon⟩ := hW j oj hjW hji hoj
     exact unl e he hb (hWl _ hon)
    have h2 := wpOp_putIf hoj (hfree j oj hoj hji hjun hnot) (fun cs b => hsel i oi cs b hi) (fun cs b => hsel j oj cs b hoj) hQ hy h1
    have hfree' : ∀ k ok, ops[k]? = some ok → k ≠ i → (listed.setIfInBounds j true).getD k true = false →
     (∀ e ∈ ok.after, Region.binds md e = true → e.on ≠ i) → oi.apart ops ok = true := fun k ok hk hki hun hno => by
     refine hfree k ok hk hki ?_ hno
     by_cases hjk : j = k
     · subst hjk; exact hjun
     · rw [getD_set_ne true hjk] at hun; exact hun
    have hWl' : ∀ k ∈ W, (listed.setIfInBounds j true).getD k true = false := fun k hk => by
     have hne : j ≠ k := fun e => hjW (e ▸ hk)
     rw [getD_set_ne true hne]; exact hWl k hk
    refine wpOp_mono (fun a' w' h3 => ?_) h2
    obtain ⟨h4, h5, h6⟩ := h3
    rw [Array.setIfInBounds_comm _ _ (Ne.symm hji)] at h5 h6
    exact ⟨hSi _ _ h5, ih (listed.setIfInBounds j true) a' w' hfree' (ready_mono hr (Ne.symm hji)) hWl' h4 (hSi _ _ h5) h5 h6⟩
def waits (md : Region.Mode) (ops : List Oper) (i : Nat) : List Nat :=
 (ops.foldl (fun (p : Nat × List Nat) o => (p.1 + 1, if o.after.any (fun e => Region.binds md e && p.2.contains e.on) then p.1 :: p.2 else p.2)) (0, [i])).2
def wOk (md : Region.Mode) (ops : Array Oper) (late W : List Nat) (i : Nat) (listed : Array Bool) : Bool :=
 W.contains i && late.all (W.contains ·) && W.all fun j => (listed.getD j true == false) && (j == i || match ops[j]? with | none => true | some o => o.after.any fun e => Region.binds md e && W.contains e.on)
def planOkL (md : Region.Mode) (ops : Array Oper) (late : List Nat) : List (Nat × Nat) → Array Bool → Bool
 | [], listed => (Region.ready md ops listed).isEmpty
 | p :: r, listed => decide (p.1 < ops.toList.length) && (match p.2 with
  | 0 => Region.free md ops listed p.1 && (Region.ready md ops listed).contains p.1 && wOk md ops late (waits md ops.toList p.1) p.1 listed && !late.contains p.1
  | 1 => Region.ready md ops listed == [p.1] && !late.contains p.1
  | 2 => Region.ready md ops listed == [p.1] && late.contains p.1 && decide (p.1 < listed.size)
  | _ => Region.free md ops listed p.1 && (Region.ready md ops listed).contains p.1 && !late.contains p.1) && planOkL md ops late r (listed.setIfInBounds p.1 true)
def planLL (l : List Oper) : List (Nat × Nat) → List (Oper × Nat)
 | [] => []
 | p :: r => (getO op0 l p.1, p.2) :: planLL l r
end
section
variable {P : Program} {ops : Array Oper} {Q : Exit → Act → World → Prop} {md : Region.Mode} {F : World → Prop}
def wpPlanL (P : Program) (ops : Array Oper) (Q : Exit → Act → World → Prop) (F : World → Prop) : List (Oper × Nat) → Act → World → Prop
 | [], a, w => Q .normal a w
 | (o, 0) :: r, a, w => ∃ v, YieldsIf P ops F o v a ∧ wpPlanL P ops Q F r (a.put o.dst v) w
 | (o, 1) :: r, a, w => if Region.wanted o (yielded ops a.tmps) = true then o.wp P a w (fun a' w' => F w' ∧ wpPlanL P ops Q F r a' w') Q else wpPlanL P ops Q F r (a.put o.dst undef) w
 | (o, 2) :: r, a, w => if Region.wanted o (yielded ops a.tmps) = true then o.wp P a w (fun a' w' => wpPlanL P ops Q F r a' w') Q else wpPlanL P ops Q F r (a.put o.dst undef) w
 | (o, _) :: r, a, w => ∃ v, YieldsIf P ops (fun _ => True) o v a ∧ wpPlanL P ops Q F r (a.put o.dst v) w
def byLate (late : List Nat) (F : World → Prop) (listed : Array Bool) (w : World) : Prop := (∃ l ∈ late, listed.getD l false = true) ∨ F w
theorem getD_set_same {l : Array Bool} {i : Nat} (h : i < l.size) : (l.setIfInBounds i true).getD i false = true := by simp [h]
theorem byLate_set {late : List Nat} {F : World → Prop} {listed : Array Bool} {i : Nat} {w : World} (hi : i ∉ late) : byLate late F (listed.setIfInBounds i true) w ↔ byLate late F listed w := by
 unfold byLate
 refine or_congr ⟨fun ⟨l, hl, h⟩ => ⟨l, hl, ?_⟩, fun ⟨l, hl, h⟩ => ⟨l, hl, ?_⟩⟩ Iff.rfl
 · rwa [getD_set_ne false (fun e : i = l => hi (by rw [e]; exact hl))] at h
 · rwa [getD_set_ne false (fun e : i = l => hi (by rw [e]; exact hl))]
theorem wpAnyI_planL (late : List Nat) (hs : Region.noSelect ops = true) (hQ : ∀ c d v a w, Q (.panic c) (Act.put a d v) w → Q (.panic c) a w) :
 ∀ (plan : List (Nat × Nat)) (listed : Array Bool) (a : Act) (w : World), planOkL md ops late plan listed = true → byLate late F listed w → wpPlanL P ops Q F (planLL ops.toList plan) a w → wpAnyI P md ops Q (byLate late F) plan.length listed a w
 | [], listed, a, w, hk, hS, h => ⟨by simpa [planOkL, List.isEmpty_iff] using hk, h⟩
 | p :: r, listed, a, w, hk, hS, h => by
  obtain ⟨i, b⟩ := p
  simp only [planOkL, Bool.and_eq_true, decide_eq_true_eq] at hk
  obtain ⟨⟨hi, hb⟩, hr⟩ := hk
  have ho : ops[i]? = some (getO op0 ops.toList i) := by rw [← getO_eq op0 _ _ hi]; simp
  have sole : Region.ready md ops listed = [i] → wpOp P ops Q i (fun a' w' => byLate late F (listed.setIfInBounds i true) w' ∧ wpAnyI P md ops Q (byLate late F) r.length (listed.setIfInBounds i true) a' w') a w → wpAnyI P md ops Q (byLate late F) (r.length + 1) listed a w := fun hb' hw =>
   ⟨(fun h0 => by rw [hb'] at h0; cases h0), (fun j hj => by rw [hb'] at hj; obtain rfl := List.mem_singleton.1 hj; exact hw)⟩
  match b, hb, h with
  | 0, hb, h =>
   simp only [Bool.and_eq_true, wOk, List.all_eq_true, Bool.not_eq_true'] at hb
   obtain ⟨⟨⟨hf, hre⟩, ⟨⟨hwi, hlw⟩, hwa⟩⟩, hnl⟩ := hb
   obtain ⟨v, hy, hw⟩ := h
   have hnl' : i ∉ late := fun h => by rw [List.contains_iff_mem.2 h] at hnl; cases hnl
   refine wpAnyI_first (S := byLate late F) (waits md ops.toList i) F ho (Region.noSelect_spec hs) (fun c a w => hQ c _ _ a w) (fun j oj hj hji hoj => ?_) (fun l w hl hSw => ?_) (fun l w hSw => (byLate_set (F := F) hnl').1 hSw)
    r.length listed a w (Region.free_spec ho hf) (by simpa using hre) (fun j hj => by have := (hwa j hj).1; simpa using this) hy hS ((byLate_set hnl').2 hS) (wpAnyI_planL late hs hQ r _ _ _ hr ((byLate_set hnl').2 hS) hw)
   · have := (hwa j hj).2
     rw [hoj] at this
     simp only [Bool.or_eq_true, beq_iff_eq, hji, false_or, Array.any_eq_true] at this
     obtain ⟨n, hn, h1⟩ := this
     rw [Bool.and_eq_true] at h1
     exact ⟨oj.after[n], Array.getElem_mem hn, h1.1, List.contains_iff_mem.1 h1.2⟩
   · rcases hSw with ⟨x, hx, h1⟩ | h1
     · have h2 := hl x (List.contains_iff_mem.1 (hlw x hx))
       rcases Nat.lt_or_ge x l.size with h' | h'
       · simp [h'] at h1 h2; rw [h1] at h2; cases h2
       · simp [Array.getElem?_eq_none h'] at h1
     · exact h1
  | 1, hb, h =>
   simp only [Bool.and_eq_true, beq_iff_eq, Bool.not_eq_true'] at hb
   have hnl' : i ∉ late := fun h => by have h2 := hb.2; rw [List.contains_iff_mem.2 h] at h2; cases h2
   refine sole hb.1 (wpOp_step ho fun K hK => ?_)
   simp only [planLL, wpPlanL] at h
   split
   · rename_i hw
     rw [if_pos hw] at h
     exact Oper.wp_mono (fun a' w' hh => hK a' w' ⟨.inr hh.1, wpAnyI_planL late hs hQ r _ _ _ hr (.inr hh.1) hh.2⟩) h
   · rename_i hw
     rw [if_neg hw] at h
     exact hK _ _ ⟨(byLate_set hnl').2 hS, wpAnyI_planL late hs hQ r _ _ _ hr ((byLate_set hnl').2 hS) h⟩
  | 2, hb, h =>
   simp only [Bool.and_eq_true, beq_iff_eq, decide_eq_true_eq] at hb
   have hl : ∀ w', byLate late F (listed.setIfInBounds i true) w' := fun w' => .inl ⟨i, List.contains_iff_mem.1 hb.1.2, getD_set_same hb.2⟩
   refine sole hb.1.1 (wpOp_step ho fun K hK => ?_)
   simp only [planLL, wpPlanL] at h
   split
   · rename_i hw
     rw [if_pos hw] at h
     exact Oper.wp_mono (fun a' w' hh => hK a' w' ⟨hl w', wpAnyI_planL late hs hQ r _ _ _ hr (hl w') hh⟩) h
   · rename_i hw
     rw [if_neg hw] at h
     exact hK _ _ ⟨hl w, wpAnyI_planL late hs hQ r _ _ _ hr (hl w) h⟩
  | n + 3, hb, h =>
   simp only [Bool.and_eq_true, Bool.not_eq_true'] at hb
   have hnl' : i ∉ late := fun h => by have h2 := hb.2; rw [List.contains_iff_mem.2 h] at h2; cases h2
   simp only [planLL, wpPlanL] at h
   obtain ⟨v, hy, hw⟩ := h
   exact wpAnyI_first (S := byLate late F) [] (fun _ => True) ho (Region.noSelect_spec hs) (fun c a w => hQ c _ _ a w) (fun j oj hj => by cases hj) (fun _ _ _ _ => trivial) (fun l w hSw => (byLate_set (F := F) hnl').1 hSw)
    r.length listed a w (Region.free_spec ho hb.1.1) (by simpa using hb.1.2) (fun j hj => by cases hj) hy hS ((byLate_set hnl').2 hS) (wpAnyI_planL late hs hQ r _ _ _ hr ((byLate_set hnl').2 hS) hw)
theorem wp_region_planL (late : List Nat) (plan : List (Nat × Nat)) (F : World → Prop) {id : Nat} {a : Act} {w : World} (hm : P.follows .mixedOrders = true) (hs : Region.noSelect ops = true) (hk : (planOkL .any ops late plan (Array.replicate ops.size false) && plan.length == ops.size) = true)
 (hQ : ∀ c d v a w, Q (.panic c) (Act.put a d v) w → Q (.panic c) a w) (hF : F w.drew) (h : wpPlanL P ops Q F (planLL ops.toList plan) a w.drew) : (Code.region id ops true).wp P Q a w := by
 simp only [Bool.and_eq_true, beq_iff_eq] at hk
 have h2 := wpAnyI_planL late hs hQ plan _ _ _ hk.1 (.inr hF) h
 rw [hk.2] at h2
 exact wp_region_any hm (wpAny_of_I _ _ _ _ h2)
theorem planL_nil {a : Act} {w : World} (h : Q .normal a w) : wpPlanL P ops Q F [] a w := h
theorem planL_take {o : Oper} {r : List (Oper × Nat)} {a : Act} {w : World} {v : Value} (hw : Region.wanted o (yielded ops a.tmps) = true) (hy : ∀ w, F w → (execOp a.eval o).run P w = .ok (.value v) w) (h : wpPlanL P ops Q F r (a.put o.dst v) w) : wpPlanL P ops Q F ((o, 0) :: r) a w :=
 ⟨v, .inl ⟨hw, hy⟩, h⟩
theorem planL_pure {o : Oper} {r : List (Oper × Nat)} {a : Act} {w : World} {v : Value} (hw : Region.wanted o (yielded ops a.tmps) = true) (hy : ∀ w, (execOp a.eval o).run P w = .ok (.value v) w) (h : wpPlanL P ops Q F r (a.put o.dst v) w) : wpPlanL P ops Q F ((o, 3) :: r) a w :=
 ⟨v, .inl ⟨hw, fun w _ => hy w⟩, h⟩
theorem planL_call {o : Oper} {r : List (Oper × Nat)} {a : Act} {w : World} (h : ∀ K' : Act → World → Prop, Shut (∀ a w, F w → wpPlanL P ops Q F r a w → K' a w) → if Region.wanted o (yielded ops a.tmps) = true then Oper.wp P o a w K' Q else K' (a.put o.dst undef) w) : wpPlanL P ops Q F ((o, 1) :: r) a w := by
 simp only [wpPlanL]
 have := h (fun a' w' => F w' ∧ wpPlanL P ops Q F r a' w') (fun a' w' h1 h2 => ⟨h1, h2⟩)
 by_cases hw : Region.wanted o (yielded ops a.tmps) = true
 · rw [if_pos hw] at this ⊢; exact this
 · rw [if_neg hw] at this ⊢; exact this.2
theorem planL_late {o : Oper} {r : List (Oper × Nat)} {a : Act} {w : World} (h : ∀ K' : Act → World → Prop, Shut (∀ a w, wpPlanL P ops Q F r a w → K' a w) → if Region.wanted o (yielded ops a.tmps) = true then Oper.wp P o a w K' Q else K' (a.put o.dst undef) w) : wpPlanL P ops Q F ((o, 2) :: r) a w := by
 simp only [wpPlanL]
 have := h (fun a' w' => wpPlanL P ops Q F r a' w') (fun a' w' h2 => h2)
 by_cases hw : Region.wanted o (yielded ops a.tmps) = true
 · rw [if_pos hw] at this ⊢; exact this
 · rw [if_neg hw] at this ⊢; exact this
end
end Go.Ren
namespace Go.Ren
open Go.RowKit
set_option linter.unusedVariables false
section
variable {P : Program} {ops : Array Oper} {Q : Exit → Act → World → Prop} {md : Region.Mode} {F : World → Prop}
end
end Go.Ren
