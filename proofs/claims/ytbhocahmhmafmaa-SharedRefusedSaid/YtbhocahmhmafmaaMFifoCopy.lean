/-
  The contracts of (*fifo.Queue).Copy, renlaw19.plain. No condition.
-/
import Derived.Test.YtbhocahmhmafmaaMFifoDelete
import Derived.Test.YtbhocahmhmafmaaMPlan
namespace Go.Proofs.Ytbhocahmhmafmaa
open Go.Ren Go.RowKit
set_option linter.unusedVariables false
theorem queue_of_list {w w1 : World} {pq room : Nat} {lv v : Value} {V V' : Nat → Value} {E : List Ent} (hin : QueueIn w pq lv V room E) (x : Ext w w1) (li : ListIn w1 v V' E.length (fun i => ent E i)) (f1 : ∀ q, v.ownBlock = some q → w.heap.size ≤ q) (f2 : ∀ i q, i < E.length → (V' i).ownBlock = some q → w.heap.size ≤ q) :
    ∃ S', QueueAt (w1.alloc (.cells #[.int .i64 (room : Int), v] 112)) (.pointer (some ⟨w1.heap.size, 0, none⟩)) room E S' ∧ ∀ k, S' k → w.heap.size ≤ k := by
  have xa : Ext w1 (w1.alloc (.cells #[.int .i64 (room : Int), v] 112)) := (Mod.refl _ _).alloc _
  refine ⟨QueueFp w1.heap.size v V' E.length, ⟨_, v, V', rfl, ⟨heap_alloc_new _ _, li.row.ext xa, fun i hi => ((li.bs i hi).ext xa).sl, fun i k hi hk => ⟨?_, fun h => ?_⟩, hin.ok, hin.rng, hin.cnt⟩, fun k => Iff.rfl⟩, fun k hk => ?_⟩
  · have := (li.bs i hi).lt (fp_ob hk); omega
  · exact (li.bs i hi).apart li.row (by decide) (fp_ob hk) h
  · rcases hk with rfl | hk | ⟨i, hi, hk⟩
    · exact x.size
    · exact f1 k hk
    · exact f2 i k hi (fp_ob hk)
set_option maxRecDepth 100000 in
theorem qcopy_any (w : World) (p : Value) (room : Nat) (E : List Ent) (S : Nat → Prop) (h : QueueAt w p room E S) :
    Calls Try.prog 74 #[p] w fun r w' => ∃ g S', r = .returned (.pointer (some ⟨g, 0, none⟩)) ∧ QueueAt w' (.pointer (some ⟨g, 0, none⟩)) room E S' ∧ Ext w w' ∧ ∀ k, S' k → w.heap.size ≤ k := by
  have HQ := Lib.hid h
  obtain ⟨pq, lv, V0, rfl, hin, hS⟩ := h.ex
  have KF : Hid (∀ w', Ext w w' → w'.cell? ⟨pq, 0, none⟩ = some (.int .i64 (room : Int))) := Lib.hid fun w' x => Ext.cell x hin.c0
  have HIN := Lib.hid hin
  clear h hin hS
  go_enter Try.func74, Try.ntmps74
  go_upto_region 1 with fail
  refine wp_region_plan [(0, true), (1, true), (2, true), (3, true), (4, true), (5, false), (6, true), (7, false), (8, true)] (fun w' => w'.cell? ⟨pq, 0, none⟩ = some (.int .i64 (room : Int))) (by kernel_rfl) (by kernel_rfl) (by kernel_rfl) (fun _ d _ _ _ h => by cases d <;> exact h) (KF.out _ (Mod.drew (Mod.refl _ _))) ?_
  simp only [planL, getO]
  iterate 5 (refine plan_take (v := ?_) (by rfl) (fun wS hS => ?_) ?_; rotate_left; (focus ((try dsimp only at hS); go_simp; (try with_reducible rfl); done)); (try simp only [Act.put, List.setIfInBounds_toArray, List.set_cons_zero, List.set_cons_succ]))
  refine plan_call (fun K hK => ?_)
  go_simp
  go_at_call 86; refine (qlist_any _ _ room E S (HQ.out.ext (Mod.drew (Mod.refl _ _)))).mono ?_; rintro en w1 ⟨v, V, rfl, li, y1, f1, f2⟩; have U1 : Ext w w1 := Mod.trans (Mod.drew (Mod.refl _ _)) y1; (obtain ⟨la, lc, hv, _⟩ := li.row.sl.shape); subst hv
  refine hK.out _ _ (KF.out _ U1) ?_
  clear hK K
  (try simp only [Act.put, List.setIfInBounds_toArray, List.set_cons_zero, List.set_cons_succ])
  (refine plan_take (v := ?_) (by rfl) (fun wS hS => ?_) ?_; rotate_left; (focus ((try dsimp only at hS); go_simp; (try with_reducible rfl); done)); (try simp only [Act.put, List.setIfInBounds_toArray, List.set_cons_zero, List.set_cons_succ]))
  refine plan_call (fun K hK => ?_)
  go_simp
  skip
  refine hK.out _ _ (KF.out _ (U1.alloc _)) ?_
  clear hK K
  (try simp only [Act.put, List.setIfInBounds_toArray, List.set_cons_zero, List.set_cons_succ])
  (refine plan_take (v := ?_) (by rfl) (fun wS hS => ?_) ?_; rotate_left; (focus ((try dsimp only at hS); go_simp; (try with_reducible rfl); done)); (try simp only [Act.put, List.setIfInBounds_toArray, List.set_cons_zero, List.set_cons_succ]))
  refine plan_nil ?_
  have HL := Lib.hid (And.intro li (And.intro U1 (And.intro f1 (And.intro f2 y1))))
  clear li U1 f1 f2 y1
  go_wp2_with fail
  go_ret
  obtain ⟨li, U1, f1, f2, y1⟩ := HL.out
  obtain ⟨S', hq, hs⟩ := queue_of_list HIN.out U1 li (fun q hq => by have := f1 q hq; exact this) (fun i q hi hq => by have := f2 i q hi hq; exact this)
  exact ⟨_, S', rfl, hq, U1.alloc _, hs⟩
end Go.Proofs.Ytbhocahmhmafmaa
