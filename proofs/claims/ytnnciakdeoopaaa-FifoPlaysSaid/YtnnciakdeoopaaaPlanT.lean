/-
  Regions that draw their order, walked along a tree: an operation is taken first, or the walk forks over all that may come up. Over any program. No condition.
-/
import Derived.Test.YtnnciakdeoopaaaPlanL
import Derived.Test.YtnnciakdeoopaaaLib
namespace Go.Ren
open Go.RowKit
set_option linter.unusedVariables false

inductive PT where
  | nil
  | take (i k : Nat) (r : PT)
  | fork (m : PT)
  | alt (i : Nat) (r m : PT)
  | noalt
inductive PTO where
  | nil
  | take (o : Oper) (k : Nat) (r : PTO)
  | fork (m : PTO)
  | alt (o : Oper) (late : Bool) (r m : PTO)
  | noalt
def altIdx : PT → List Nat
  | .alt i _ m => i :: altIdx m
  | _ => []
def PT.isNode : PT → Bool
  | .nil => true
  | .take _ _ _ => true
  | .fork _ => true
  | _ => false
def planT (l : List Oper) (late : List Nat) : PT → PTO
  | .nil => .nil
  | .take i k r => .take (getO op0 l i) k (planT l late r)
  | .fork m => .fork (planT l late m)
  | .alt i r m => .alt (getO op0 l i) (late.contains i) (planT l late r) (planT l late m)
  | .noalt => .noalt
def planOkT (md : Region.Mode) (ops : Array Oper) (late : List Nat) : PT → Nat → Array Bool → Bool
  | .nil, n, listed => n == 0 && (Region.ready md ops listed).isEmpty
  | .take i k r, n + 1, listed => decide (i < ops.toList.length) && (match k with
      | 0 => Region.free md ops listed i && (Region.ready md ops listed).contains i && wOk md ops late (waits md ops.toList i) i listed && !late.contains i
      | _ => Region.free md ops listed i && (Region.ready md ops listed).contains i && !late.contains i) && r.isNode && planOkT md ops late r n (listed.setIfInBounds i true)
  | .fork m, n, listed => (Region.ready md ops listed == altIdx m) && !(altIdx m).isEmpty && planOkT md ops late m n listed
  | .alt i r m, n + 1, listed => decide (i < ops.toList.length) && decide (i < listed.size) && r.isNode && planOkT md ops late r n (listed.setIfInBounds i true) && planOkT md ops late m (n + 1) listed
  | .noalt, _, _ => true
  | _, _, _ => false

section
variable {P : Program} {ops : Array Oper} {Q : Exit → Act → World → Prop} {md : Region.Mode} {F : World → Prop}
def wpPlanT (P : Program) (ops : Array Oper) (Q : Exit → Act → World → Prop) (F : World → Prop) : PTO → Act → World → Prop
  | .nil, a, w => Q .normal a w
  | .take o 0 r, a, w => ∃ v, YieldsIf P ops F o v a ∧ wpPlanT P ops Q F r (a.put o.dst v) w
  | .take o _ r, a, w => ∃ v, YieldsIf P ops (fun _ => True) o v a ∧ wpPlanT P ops Q F r (a.put o.dst v) w
  | .fork m, a, w => wpPlanT P ops Q F m a w
  | .alt o late r m, a, w => (if Region.wanted o (yielded ops a.tmps) = true then o.wp P a w (fun a' w' => (late = false → F w') ∧ wpPlanT P ops Q F r a' w') Q else wpPlanT P ops Q F r (a.put o.dst undef) w) ∧ wpPlanT P ops Q F m a w
  | .noalt, _, _ => True

theorem wpAnyI_planT (late : List Nat) (hs : Region.noSelect ops = true) (hQ : ∀ c d v a w, Q (.panic c) (Act.put a d v) w → Q (.panic c) a w) : ∀ (plan : PT),
    (plan.isNode = true → ∀ (n : Nat) (listed : Array Bool) (a : Act) (w : World), planOkT md ops late plan n listed = true → byLate late F listed w → wpPlanT P ops Q F (planT ops.toList late plan) a w → wpAnyI P md ops Q (byLate late F) n listed a w) ∧
    (∀ (n : Nat) (listed : Array Bool) (a : Act) (w : World), planOkT md ops late plan (n + 1) listed = true → byLate late F listed w → wpPlanT P ops Q F (planT ops.toList late plan) a w →
      ∀ i ∈ altIdx plan, wpOp P ops Q i (fun a' w' => byLate late F (listed.setIfInBounds i true) w' ∧ wpAnyI P md ops Q (byLate late F) n (listed.setIfInBounds i true) a' w') a w)
  | .nil => ⟨(fun _ n listed a w hk hS h => by
      simp only [planOkT, Bool.and_eq_true, beq_iff_eq, List.isEmpty_iff] at hk
      obtain ⟨rfl, hk⟩ := hk
      exact ⟨hk, h⟩), (fun n listed a w hk hS h i hi => by cases hi)⟩
  | .noalt => ⟨(fun hn => by cases hn), (fun n listed a w hk hS h i hi => by cases hi)⟩
  | .fork m => ⟨(fun _ n listed a w hk hS h => by
      simp only [planOkT, Bool.and_eq_true, beq_iff_eq, Bool.not_eq_true'] at hk
      obtain ⟨⟨h1, h2⟩, h3⟩ := hk
      cases n with
      | zero =>
        cases m with
        | alt i r m' => simp [planOkT] at h3
        | _ => simp [altIdx] at h2
      | succ n =>
        refine ⟨fun h0 => ?_, fun i hi => (wpAnyI_planT late hs hQ m).2 n listed a w h3 hS h i (by rw [← h1]; exact hi)⟩
        rw [h1] at h0; rw [h0] at h2; cases h2), (fun n listed a w hk hS h i hi => by cases hi)⟩
  | .alt i r m => ⟨(fun hn => by cases hn), fun n listed a w hk hS h j hj => by
      simp only [planOkT, Bool.and_eq_true, decide_eq_true_eq] at hk
      obtain ⟨⟨⟨⟨hi, hil⟩, hnode⟩, hr⟩, hm⟩ := hk
      obtain ⟨h1, h2⟩ := h
      rcases List.mem_cons.1 hj with rfl | hj'
      · have ho : ops[j]? = some (getO op0 ops.toList j) := by rw [← getO_eq op0 _ _ hi]; simp
        refine wpOp_step ho fun K hK => ?_
        split
        · rename_i hw
          rw [if_pos hw] at h1
          refine Oper.wp_mono (fun a' w' hh => ?_) h1
          have hb : byLate late F (listed.setIfInBounds j true) w' := by
            cases hc : late.contains j with
            | true => exact .inl ⟨j, List.contains_iff_mem.1 hc, getD_set_same hil⟩
            | false => exact .inr (hh.1 hc)
          exact hK a' w' ⟨hb, (wpAnyI_planT late hs hQ r).1 hnode n _ _ _ hr hb hh.2⟩
        · rename_i hw
          rw [if_neg hw] at h1
          have hb : byLate late F (listed.setIfInBounds j true) w := by
            by_cases hc : j ∈ late
            · exact .inl ⟨j, hc, getD_set_same hil⟩
            · exact (byLate_set hc).2 hS
          exact hK _ _ ⟨hb, (wpAnyI_planT late hs hQ r).1 hnode n _ _ _ hr hb h1⟩
      · exact (wpAnyI_planT late hs hQ m).2 n listed a w hm hS h2 j hj'⟩
  | .take i k r => ⟨(fun _ n listed a w hk hS h => by
      cases n with
      | zero => simp [planOkT] at hk
      | succ n =>
        simp only [planOkT, Bool.and_eq_true, decide_eq_true_eq] at hk
        obtain ⟨⟨⟨hi, hb⟩, hnode⟩, hr⟩ := hk
        have ho : ops[i]? = some (getO op0 ops.toList i) := by rw [← getO_eq op0 _ _ hi]; simp
        match k, hb, h with
        | 0, hb, h =>
          simp only [Bool.and_eq_true, wOk, List.all_eq_true, Bool.not_eq_true'] at hb
          obtain ⟨⟨⟨hf, hre⟩, ⟨⟨hwi, hlw⟩, hwa⟩⟩, hnl⟩ := hb
          obtain ⟨v, hy, hw⟩ := h
          have hnl' : i ∉ late := fun h => by rw [List.contains_iff_mem.2 h] at hnl; cases hnl
          refine wpAnyI_first (S := byLate late F) (waits md ops.toList i) F ho (Region.noSelect_spec hs) (fun c a w => hQ c _ _ a w) (fun j oj hj hji hoj => ?_) (fun l w hl hSw => ?_) (fun l w hSw => (byLate_set (F := F) hnl').1 hSw)
            n listed a w (Region.free_spec ho hf) (by simpa using hre) (fun j hj => by have := (hwa j hj).1; simpa using this) hy hS ((byLate_set hnl').2 hS) ((wpAnyI_planT late hs hQ r).1 hnode n _ _ _ hr ((byLate_set hnl').2 hS) hw)
          · have := (hwa j hj).2
            rw [hoj] at this
            simp only [Bool.or_eq_true, beq_iff_eq, hji, false_or, Array.any_eq_true] at this
            obtain ⟨n, hn, h1⟩ := this
            rw [Bool.and_eq_true] at h1
            exact ⟨oj.after[n], Array.getElem_mem hn, h1.1, List.contains_iff_mem.1 h1.2⟩
          · rcases hSw with ⟨x, hx, h1⟩ | h1
            · have h2 := hl x (List.contains_iff_mem.1 (hlw x hx))
              rcases Nat.lt_or_ge x l.size with h' | h'
              · simp [h'] at h1 h2; rw [h1] at h2; cases h2
              · simp [Array.getElem?_eq_none h'] at h1
            · exact h1
        | k + 1, hb, h =>
          simp only [Bool.and_eq_true, Bool.not_eq_true'] at hb
          have hnl' : i ∉ late := fun h => by have h2 := hb.2; rw [List.contains_iff_mem.2 h] at h2; cases h2
          obtain ⟨v, hy, hw⟩ := h
          exact wpAnyI_first (S := byLate late F) [] (fun _ => True) ho (Region.noSelect_spec hs) (fun c a w => hQ c _ _ a w) (fun j oj hj => by cases hj) (fun _ _ _ _ => trivial) (fun l w hSw => (byLate_set (F := F) hnl').1 hSw)
            n listed a w (Region.free_spec ho hb.1.1) (by simpa using hb.1.2) (fun j hj => by cases hj) hy hS ((byLate_set hnl').2 hS) ((wpAnyI_planT late hs hQ r).1 hnode n _ _ _ hr ((byLate_set hnl').2 hS) hw)), (fun n listed a w hk hS h i hi => by cases hi)⟩

/-- The beginning. -/
theorem wp_region_planT (late : List Nat) (plan : PT) (F : World → Prop) {id : Nat} {a : Act} {w : World} (hm : P.follows .mixedOrders = true) (hs : Region.noSelect ops = true) (hk : (planOkT .any ops late plan ops.size (Array.replicate ops.size false) && plan.isNode) = true)
    (hQ : ∀ c d v a w, Q (.panic c) (Act.put a d v) w → Q (.panic c) a w) (hF : F w.drew) (h : wpPlanT P ops Q F (planT ops.toList late plan) a w.drew) : (Code.region id ops true).wp P Q a w := by
  simp only [Bool.and_eq_true] at hk
  exact wp_region_any hm (wpAny_of_I _ _ _ _ ((wpAnyI_planT late hs hQ plan).1 hk.2 _ _ _ _ hk.1 (.inr hF) h))

theorem planT_nil {a : Act} {w : World} (h : Q .normal a w) : wpPlanT P ops Q F .nil a w := h
theorem planT_take {o : Oper} {r : PTO} {a : Act} {w : World} {v : Value} (hw : Region.wanted o (yielded ops a.tmps) = true) (hy : ∀ w, F w → (execOp a.eval o).run P w = .ok (.value v) w) (h : wpPlanT P ops Q F r (a.put o.dst v) w) : wpPlanT P ops Q F (.take o 0 r) a w :=
  ⟨v, .inl ⟨hw, hy⟩, h⟩
theorem planT_pure {o : Oper} {r : PTO} {a : Act} {w : World} {v : Value} (hw : Region.wanted o (yielded ops a.tmps) = true) (hy : ∀ w, (execOp a.eval o).run P w = .ok (.value v) w) (h : wpPlanT P ops Q F r (a.put o.dst v) w) : wpPlanT P ops Q F (.take o 3 r) a w :=
  ⟨v, .inl ⟨hw, fun w _ => hy w⟩, h⟩
theorem planT_skip {o : Oper} {r : PTO} {a : Act} {w : World} (hw : Region.wanted o (yielded ops a.tmps) = false) (h : wpPlanT P ops Q F r (a.put o.dst undef) w) : wpPlanT P ops Q F (.take o 0 r) a w :=
  ⟨undef, .inr ⟨hw, rfl⟩, h⟩
theorem planT_fork {m : PTO} {a : Act} {w : World} (h : wpPlanT P ops Q F m a w) : wpPlanT P ops Q F (.fork m) a w := h
theorem planT_end {a : Act} {w : World} : wpPlanT P ops Q F .noalt a w := trivial
theorem planT_alt {o : Oper} {r m : PTO} {a : Act} {w : World} (h : ∀ K' : Act → World → Prop, Shut (∀ a w, F w → wpPlanT P ops Q F r a w → K' a w) → if Region.wanted o (yielded ops a.tmps) = true then Oper.wp P o a w K' Q else K' (a.put o.dst undef) w) (hm : wpPlanT P ops Q F m a w) : wpPlanT P ops Q F (.alt o false r m) a w := by
  refine ⟨?_, hm⟩
  have := h (fun a' w' => F w' ∧ wpPlanT P ops Q F r a' w') (fun a' w' h1 h2 => ⟨h1, h2⟩)
  by_cases hw : Region.wanted o (yielded ops a.tmps) = true
  · rw [if_pos hw] at this ⊢
    exact Oper.wp_mono (fun a' w' hh => ⟨fun _ => hh.1, hh.2⟩) this
  · rw [if_neg hw] at this ⊢; exact this.2
theorem planT_late {o : Oper} {r m : PTO} {a : Act} {w : World} (h : ∀ K' : Act → World → Prop, Shut (∀ a w, wpPlanT P ops Q F r a w → K' a w) → if Region.wanted o (yielded ops a.tmps) = true then Oper.wp P o a w K' Q else K' (a.put o.dst undef) w) (hm : wpPlanT P ops Q F m a w) : wpPlanT P ops Q F (.alt o true r m) a w := by
  refine ⟨?_, hm⟩
  have := h (fun a' w' => wpPlanT P ops Q F r a' w') (fun a' w' h2 => h2)
  by_cases hw : Region.wanted o (yielded ops a.tmps) = true
  · rw [if_pos hw] at this ⊢
    exact Oper.wp_mono (fun a' w' hh => ⟨fun h => (by cases h), hh⟩) this
  · rw [if_neg hw] at this ⊢; exact this
theorem wanted_none {o : Oper} (hg : o.guard = none) (y : Nat → Option Bool) : Region.wanted o y = true := by unfold Region.wanted; rw [hg]
theorem planT_skipc {o : Oper} {late : Bool} {r m : PTO} {a : Act} {w : World} (hw : Region.wanted o (yielded ops a.tmps) = false) (h : wpPlanT P ops Q F r (a.put o.dst undef) w) (hm : wpPlanT P ops Q F m a w) : wpPlanT P ops Q F (.alt o late r m) a w := by
  refine ⟨?_, hm⟩
  rw [hw]; simpa using h
/-- A box is made: its block is new. -/
theorem planT_alloc {o : Oper} {late : Bool} {r m : PTO} {a : Act} {w : World} {T : TypeId} {z : Value} {cs : Array Value} (hg : o.guard = none) (ho : o.op = .alloc T) (hz : ∀ w, (zeroValue T).run P w = .ok z w) (hc : z.cells = cs)
    (h : ∀ g w', Ext w w' → g = w.heap.size → w'.heap.size = g + 1 → w'.heap[g]? = some (.cells cs T (0, 0)) → (late = false → F w') ∧ wpPlanT P ops Q F r (a.put o.dst (.pointer (some ⟨g, 0, none⟩))) w') (hm : wpPlanT P ops Q F m a w) : wpPlanT P ops Q F (.alt o late r m) a w := by
  refine ⟨?_, hm⟩
  rw [if_pos (wanted_none hg _)]
  have h2 := h w.heap.size (w.alloc (.cells cs T)) ((Mod.refl _ _).alloc _) rfl (by simp) (heap_alloc_new _ _)
  unfold Oper.wp execOp
  simp only [ho, Instr.alloc, Sem.run_bind, hz, Result.andThen_ok, newVar, newRow, newObj, hc]
  exact h2
/-- A whole box is written. -/
theorem planT_store {o : Oper} {late : Bool} {r m : PTO} {a : Act} {w : World} {T : TypeId} {x y : Operand} {g : Nat} {old cs : Array Value} (hg : o.guard = none) (ho : o.op = .store T x y) (hx : a.eval x = .pointer (some ⟨g, 0, none⟩)) (hy : a.eval y = .agg cs)
    (hb : w.heap[g]? = some (.cells old T (0, 0))) (hi : (P.info? T).map (·.size) = some cs.size) (hs : old.size = cs.size) (h1 : cs.all (·.oneCell') = true)
    (h : ∀ w', Mod (fun k => k = g) w w' → w'.heap.size = w.heap.size → w'.heap[g]? = some (.cells cs T (0, 0)) → (late = false → F w') ∧ wpPlanT P ops Q F r (a.put o.dst undef) w') (hm : wpPlanT P ops Q F m a w) : wpPlanT P ops Q F (.alt o late r m) a w := by
  refine ⟨?_, hm⟩
  rw [if_pos (wanted_none hg _)]
  refine wp_store_row T x y ho g cs hx hy T old hb hi hs h1 (h _ ⟨rfl, rfl, rfl, by simp [World.setRow], fun k _ hk => setRow_other w g k _ hk⟩ (by simp [World.setRow]) (setRow_heap w g old cs T _ hb))
end
end Go.Ren
