/-
  The contract of event.copied. No condition. The contract of event.Head. No condition. The plain law of heads of logs. No condition, no program. Small tools on events and heads. No condition.
-/
import Derived.Test.YtbhocahmhmafmaaGreatPEvReads
import Derived.Test.YtbhocahmhmafmaaGreatPPlan
namespace Go.Proofs.YtbhocahmhmafmaaGreat
open Go.Ren Go.RowKit
set_option linter.unusedVariables false
structure EvOwn (w : World) (e : Ev) (v : Vs) : Prop where
 rd : Own w 5 1 v.r e.rd.length (e.rd.map bv)
 wr : Own w 5 1 v.w e.wr.length (e.wr.map bv)
 fr : Own w 3 1 v.f e.fr.length (e.fr.map iv)
theorem EvOwn.at_ {w : World} {e : Ev} {v : Vs} (h : EvOwn w e v) (ok : EvI e) : EvAt w e v := ⟨h.rd.sl, h.wr.sl, ⟨h.fr.sl, ok.fr⟩, ok⟩
theorem EvOwn.ext {w w' : World} {e : Ev} {v : Vs} (h : EvOwn w e v) (x : Ext w w') : EvOwn w' e v := ⟨h.rd.ext x, h.wr.ext x, h.fr.ext x⟩
def EvFp (v : Vs) (k : Nat) : Prop := v.r.ownBlock = some k ∨ v.w.ownBlock = some k ∨ v.f.ownBlock = some k
theorem EvOwn.mod {F : Nat → Prop} {w w' : World} {e : Ev} {v : Vs} (h : EvOwn w e v) (m : Mod F w w') (hF : ∀ k, EvFp v k → ¬ F k) : EvOwn w' e v :=
 ⟨h.rd.mod m fun k hk => hF k (.inl hk), h.wr.mod m fun k hk => hF k (.inr (.inl hk)), h.fr.mod m fun k hk => hF k (.inr (.inr hk))⟩
theorem EvOwn.lt {w : World} {e : Ev} {v : Vs} (h : EvOwn w e v) {k : Nat} (hk : EvFp v k) : k < w.heap.size := by
 rcases hk with h1 | h1 | h1
 · exact h.rd.lt h1
 · exact h.wr.lt h1
 · exact h.fr.lt h1
theorem EvOwn.apart {w : World} {e : Ev} {v : Vs} (h : EvOwn w e v) {k : Nat} {cs : Array Value} {t : TypeId} (hb : w.heap[k]? = some (.cells cs t (0, 0))) (h1 : 5 ≠ t) (h2 : 3 ≠ t) : ¬ EvFp v k := fun hk => by
 rcases hk with h3 | h3 | h3
 · exact h.rd.apart_obj hb h1 h3
 · exact h.wr.apart_obj hb h1 h3
 · exact h.fr.apart_obj hb h2 h3
def CopiedEv (e : Ev) (w : World) (en : Ending) (w' : World) : Prop := ∃ la1 lc1 la2 lc2 la3 lc3, en = .returned (evV e ⟨.slice la1 e.rd.length lc1, .slice la2 e.wr.length lc2, .slice la3 e.fr.length lc3⟩) ∧
 EvOwn w' e ⟨.slice la1 e.rd.length lc1, .slice la2 e.wr.length lc2, .slice la3 e.fr.length lc3⟩ ∧ Ext w w' ∧ ∀ k, EvFp ⟨.slice la1 e.rd.length lc1, .slice la2 e.wr.length lc2, .slice la3 e.fr.length lc3⟩ k → w.heap.size ≤ k
set_option maxRecDepth 100000 in
set_option maxHeartbeats 1600000 in
theorem copied_any (w : World) (e : Ev) (v : Vs) (h : EvAt w e v) (hl : e.rd.length ≤ 1000000 ∧ e.wr.length ≤ 1000000 ∧ e.fr.length ≤ 1000000) :
 Calls Tryz.prog 157 #[evV e v] w (CopiedEv e w) := by
 obtain ⟨k1, k2, k3, t1, t2, t3⟩ := ev_facts h
 obtain ⟨w0, hw0⟩ : ∃ w0, w0 = (w.alloc (.cells (evArr e v) 70)).alloc (.cells #[.int .i64 0, .int .i64 0, .bool false, .bool false, .int .i64 0, .int .i64 0, .int .i64 0, .slice none 0 0, .slice none 0 0, .slice none 0 0] 70) := ⟨_, rfl⟩
 obtain ⟨g, hg⟩ : ∃ g, g = w.heap.size := ⟨_, rfl⟩
 have x0 : Ext w w0 := by rw [hw0]; exact ((Mod.refl _ _).alloc _).alloc _
 have b0 : w0.heap[g]? = some (.cells (evArr e v) 70 (0, 0)) := by rw [hw0, hg]; exact heap_alloc2_old _ _ _
 have b1 : w0.heap[g + 1]? = some (.cells #[.int .i64 0, .int .i64 0, .bool false, .bool false, .int .i64 0, .int .i64 0, .int .i64 0, .slice none 0 0, .slice none 0 0, .slice none 0 0] 70 (0, 0)) := by rw [hw0, hg]; exact heap_alloc2_new _ _ _
 have key : ∀ w', Ext w0 w' → EvAt w' e v ∧ (w'.cell? ⟨g, 7, none⟩ = some v.r ∧ w'.cell? ⟨g, 8, none⟩ = some v.w ∧ w'.cell? ⟨g, 9, none⟩ = some v.f) ∧ (w'.frozen? ⟨g, 7, none⟩ = false ∧ w'.frozen? ⟨g, 8, none⟩ = false ∧ w'.frozen? ⟨g, 9, none⟩ = false) := fun w' x => by
  have hb := x.blk b0
  exact ⟨h.ext (x0.trans x), by simp [World.cell?, hb], by simp [World.frozen?, hb]⟩
 obtain ⟨-, ⟨c7, c8, c9⟩, -⟩ := key w0 (Mod.refl _ _)
 have KE := Lib.hid key
 have HW := Lib.hid (And.intro hw0 (And.intro hg (And.intro x0 (And.intro b0 (And.intro b1 hl)))))
 clear key hw0 hg x0 b0 b1 h hl
 go_enter Tryz.func157, Tryz.ntmps157
 go_upto_region 1 with fail
 rw [← HW.out.1, ← HW.out.2.1]
 clear t1 t2 t3 k1 k2 k3
 refine wp_region_planL [10, 12, 14] [(0, 3), (3, 3), (6, 3), (1, 0), (4, 0), (7, 0), (2, 1), (9, 3), (5, 1), (8, 1), (10, 2), (11, 3), (12, 2), (13, 3), (14, 2)] (fun w' => w'.cell? ⟨g, 7, none⟩ = some v.r ∧ w'.cell? ⟨g, 8, none⟩ = some v.w ∧ w'.cell? ⟨g, 9, none⟩ = some v.f) (by kernel_rfl) (by kernel_rfl) (by kernel_rfl) (fun _ d _ _ _ h => by cases d <;> exact h) ((KE.out _ (Mod.drew (Mod.refl _ _))).2.1) ?_
 simp only [planLL, getO]
 iterate 3 (refine planL_pure (v := ?_) (by rfl) (fun wS => ?_) ?_; rotate_left; (focus (go_simp; (try with_reducible rfl); done)); (try simp only [Act.put, List.setIfInBounds_toArray, List.set_cons_zero, List.set_cons_succ]))
 iterate 3 (refine planL_take (v := ?_) (by rfl) (fun wS hS => ?_) ?_; rotate_left; (focus ((try dsimp only at hS); go_simp; (try with_reducible rfl); done)); (try simp only [Act.put, List.setIfInBounds_toArray, List.set_cons_zero, List.set_cons_succ]))
 refine planL_call (fun K hK => ?_)
 go_simp
 go_at_call 89; refine (clone_bytes _ v.r e.rd (KE.out _ (Mod.drew (Mod.refl _ _))).1.rd HW.out.2.2.2.2.2.1).mono ?_; rintro en w1 ⟨v1, rfl, o1, y1, f1⟩; rw [List.length_map] at o1; obtain ⟨la1, lc1, hv1, _⟩ := o1.sl.shape; subst hv1; have E1 : Ext w0 w1 := Mod.trans (Mod.drew (Mod.refl _ _)) y1
 refine hK.out _ _ ((KE.out _ E1).2.1) ?_
 clear hK K
 (try simp only [Act.put, List.setIfInBounds_toArray, List.set_cons_zero, List.set_cons_succ])
 (refine planL_pure (v := ?_) (by rfl) (fun wS => ?_) ?_; rotate_left; (focus (go_simp; (try with_reducible rfl); done)); (try simp only [Act.put, List.setIfInBounds_toArray, List.set_cons_zero, List.set_cons_succ]))
 refine planL_call (fun K hK => ?_)
 go_simp
 go_at_call 89; refine (clone_bytes _ v.w e.wr (KE.out _ E1).1.wr HW.out.2.2.2.2.2.2.1).mono ?_; rintro en w2 ⟨v2, rfl, o2, y2, f2⟩; rw [List.length_map] at o2; obtain ⟨la2, lc2, hv2, _⟩ := o2.sl.shape; subst hv2; have E2 : Ext w0 w2 := Mod.trans E1 y2
 refine hK.out _ _ ((KE.out _ E2).2.1) ?_
 clear hK K
 (try simp only [Act.put, List.setIfInBounds_toArray, List.set_cons_zero, List.set_cons_succ])
 refine planL_call (fun K hK => ?_)
 go_simp
 go_at_call 90; refine (clone_ints _ v.f e.fr (KE.out _ E2).1.fr HW.out.2.2.2.2.2.2.2).mono ?_; rintro en w3 ⟨v3, rfl, o3, y3, f3⟩; rw [List.length_map] at o3; obtain ⟨la3, lc3, hv3, _⟩ := o3.sl.shape; subst hv3; have E3 : Ext w0 w3 := Mod.trans E2 y3; obtain ⟨-, ⟨r7, r8, r9⟩, s7, s8, s9⟩ := KE.out w3 E3
 refine hK.out _ _ ((KE.out _ E3).2.1) ?_
 clear hK K
 (try simp only [Act.put, List.setIfInBounds_toArray, List.set_cons_zero, List.set_cons_succ])
 refine planL_late (fun K hK => ?_)
 go_simp
 refine hK.out _ _ ?_
 clear hK K
 (try simp only [Act.put, List.setIfInBounds_toArray, List.set_cons_zero, List.set_cons_succ])
 (refine planL_pure (v := ?_) (by rfl) (fun wS => ?_) ?_; rotate_left; (focus (go_simp; (try with_reducible rfl); done)); (try simp only [Act.put, List.setIfInBounds_toArray, List.set_cons_zero, List.set_cons_succ]))
 refine planL_late (fun K hK => ?_)
 go_simp
 refine hK.out _ _ ?_
 clear hK K
 (try simp only [Act.put, List.setIfInBounds_toArray, List.set_cons_zero, List.set_cons_succ])
 (refine planL_pure (v := ?_) (by rfl) (fun wS => ?_) ?_; rotate_left; (focus (go_simp; (try with_reducible rfl); done)); (try simp only [Act.put, List.setIfInBounds_toArray, List.set_cons_zero, List.set_cons_succ]))
 refine planL_late (fun K hK => ?_)
 go_simp
 refine hK.out _ _ ?_
 clear hK K
 (try simp only [Act.put, List.setIfInBounds_toArray, List.set_cons_zero, List.set_cons_succ])
 refine planL_nil ?_
 obtain ⟨hw0, hg, x0, b0, b1, hl⟩ := HW.out
 have z0 := E3.blk b0
 have z1 := E3.blk b1
 obtain ⟨w4, hw4⟩ : ∃ w4, w4 = ((w3.setCell ⟨g, 7, none⟩ (.slice la1 e.rd.length lc1)).setCell ⟨g, 8, none⟩ (.slice la2 e.wr.length lc2)).setCell ⟨g, 9, none⟩ (.slice la3 e.fr.length lc3) := ⟨_, rfl⟩
 have M4 : Mod (fun q => q = g) w3 w4 := by
  rw [hw4]
  exact Mod.setCell (F := fun q => q = g) (Mod.setCell (F := fun q => q = g) (Mod.setCell (F := fun q => q = g) (Mod.refl _ _) (.inl rfl) _) (.inl rfl) _) (.inl rfl) _
 have y0 : w4.heap[g]? = some (.cells (evArr e ⟨.slice la1 e.rd.length lc1, .slice la2 e.wr.length lc2, .slice la3 e.fr.length lc3⟩) 70 (0, 0)) := by
  rw [hw4]; simp [World.setCell, Array.getElem?_modify, z0]
 have y1 := M4.blk z1 (by omega)
 have hO : EvOwn w3 e ⟨.slice la1 e.rd.length lc1, .slice la2 e.wr.length lc2, .slice la3 e.fr.length lc3⟩ := ⟨(o1.ext y2).ext y3, o2.ext y3, o3⟩
 have hF : ∀ k, EvFp ⟨.slice la1 e.rd.length lc1, .slice la2 e.wr.length lc2, .slice la3 e.fr.length lc3⟩ k → w0.heap.size ≤ k := fun k hk => by
  rcases hk with h | h | h
  · exact f1 k h
  · exact Nat.le_trans E1.size (f2 k h)
  · exact Nat.le_trans E2.size (f3 k h)
 rw [← hw4]
 have a0 : w4.cell? ⟨g, 0, none⟩ = some (.int .i64 e.ag) := by simp [World.cell?, y0]
 have a1 : w4.cell? ⟨g, 1, none⟩ = some (.int .i64 e.kind) := by simp [World.cell?, y0]
 have a2 : w4.cell? ⟨g, 2, none⟩ = some (.bool e.seq) := by simp [World.cell?, y0]
 have a3 : w4.cell? ⟨g, 3, none⟩ = some (.bool e.nt) := by simp [World.cell?, y0]
 have a4 : w4.cell? ⟨g, 4, none⟩ = some (.int .i64 e.blk) := by simp [World.cell?, y0]
 have a5 : w4.cell? ⟨g, 5, none⟩ = some (.int .i64 e.at_) := by simp [World.cell?, y0]
 have a6 : w4.cell? ⟨g, 6, none⟩ = some (.int .i64 e.size) := by simp [World.cell?, y0]
 have a7 : w4.cell? ⟨g, 7, none⟩ = some (.slice la1 e.rd.length lc1) := by simp [World.cell?, y0]
 have a8 : w4.cell? ⟨g, 8, none⟩ = some (.slice la2 e.wr.length lc2) := by simp [World.cell?, y0]
 have a9 : w4.cell? ⟨g, 9, none⟩ = some (.slice la3 e.fr.length lc3) := by simp [World.cell?, y0]
 have d0 : w4.cell? ⟨g + 1, 0, none⟩ = some (.int .i64 0) := by simp [World.cell?, y1]
 have d1 : w4.cell? ⟨g + 1, 1, none⟩ = some (.int .i64 0) := by simp [World.cell?, y1]
 have d2 : w4.cell? ⟨g + 1, 2, none⟩ = some (.bool false) := by simp [World.cell?, y1]
 have d3 : w4.cell? ⟨g + 1, 3, none⟩ = some (.bool false) := by simp [World.cell?, y1]
 have d4 : w4.cell? ⟨g + 1, 4, none⟩ = some (.int .i64 0) := by simp [World.cell?, y1]
 have d5 : w4.cell? ⟨g + 1, 5, none⟩ = some (.int .i64 0) := by simp [World.cell?, y1]
 have d6 : w4.cell? ⟨g + 1, 6, none⟩ = some (.int .i64 0) := by simp [World.cell?, y1]
 have d7 : w4.cell? ⟨g + 1, 7, none⟩ = some (.slice none 0 0) := by simp [World.cell?, y1]
 have d8 : w4.cell? ⟨g + 1, 8, none⟩ = some (.slice none 0 0) := by simp [World.cell?, y1]
 have d9 : w4.cell? ⟨g + 1, 9, none⟩ = some (.slice none 0 0) := by simp [World.cell?, y1]
 have e0 : w4.frozen? ⟨g + 1, 0, none⟩ = false := by simp [World.frozen?, y1]
 have e1 : w4.frozen? ⟨g + 1, 1, none⟩ = false := by simp [World.frozen?, y1]
 have e2 : w4.frozen? ⟨g + 1, 2, none⟩ = false := by simp [World.frozen?, y1]
 have e3 : w4.frozen? ⟨g + 1, 3, none⟩ = false := by simp [World.frozen?, y1]
 have e4 : w4.frozen? ⟨g + 1, 4, none⟩ = false := by simp [World.frozen?, y1]
 have e5 : w4.frozen? ⟨g + 1, 5, none⟩ = false := by simp [World.frozen?, y1]
 have e6 : w4.frozen? ⟨g + 1, 6, none⟩ = false := by simp [World.frozen?, y1]
 have e7 : w4.frozen? ⟨g + 1, 7, none⟩ = false := by simp [World.frozen?, y1]
 have e8 : w4.frozen? ⟨g + 1, 8, none⟩ = false := by simp [World.frozen?, y1]
 have e9 : w4.frozen? ⟨g + 1, 9, none⟩ = false := by simp [World.frozen?, y1]
 have HY := Lib.hid (And.intro hw4 (And.intro M4 (And.intro y1 (And.intro hO (And.intro hF (And.intro z0 (And.intro z1 (And.intro hg x0))))))))
 have HE := Lib.hid E3
 clear hw4 M4 y0 y1 hO hF z0 z1 hg x0 hw0 b0 b1 hl E3 E2 E1 o1 o2 o3 y2 y3 f1 f2 f3 c7 c8 c9 r7 r8 r9 s7 s8 s9
 go_wp2_with fail
 obtain ⟨hw4, M4, y1, hO, hF, z0, z1, hg, x0⟩ := HY.out
 refine bodyPost_ret (results_cell_row rfl _ _ (g + 1) 70 (evArr e ⟨.slice la1 e.rd.length lc1, .slice la2 e.wr.length lc2, .slice la3 e.fr.length lc3⟩) (0, 0) _ rfl (by simp [World.setCell, Array.getElem?_modify, y1]) Tryz.underlying70 rfl (by kernel_rfl)) rfl ?_
 have M5 : Mod (fun q => q = g + 1) w4 ((((((((((w4.setCell ⟨g + 1, 0, none⟩ (.int .i64 e.ag)).setCell ⟨g + 1, 1, none⟩ (.int .i64 e.kind)).setCell ⟨g + 1, 2, none⟩ (.bool e.seq)).setCell ⟨g + 1, 3, none⟩ (.bool e.nt)).setCell ⟨g + 1, 4, none⟩ (.int .i64 e.blk)).setCell ⟨g + 1, 5, none⟩ (.int .i64 e.at_)).setCell ⟨g + 1, 6, none⟩ (.int .i64 e.size)).setCell ⟨g + 1, 7, none⟩ (.slice la1 e.rd.length lc1)).setCell ⟨g + 1, 8, none⟩ (.slice la2 e.wr.length lc2)).setCell ⟨g + 1, 9, none⟩ (.slice la3 e.fr.length lc3)) :=
  Mod.setCell (F := fun q => q = g + 1) (Mod.setCell (F := fun q => q = g + 1) (Mod.setCell (F := fun q => q = g + 1) (Mod.setCell (F := fun q => q = g + 1) (Mod.setCell (F := fun q => q = g + 1) (Mod.setCell (F := fun q => q = g + 1) (Mod.setCell (F := fun q => q = g + 1) (Mod.setCell (F := fun q => q = g + 1) (Mod.setCell (F := fun q => q = g + 1) (Mod.setCell (F := fun q => q = g + 1) (Mod.refl _ _) (.inl rfl) _) (.inl rfl) _) (.inl rfl) _) (.inl rfl) _) (.inl rfl) _) (.inl rfl) _) (.inl rfl) _) (.inl rfl) _) (.inl rfl) _) (.inl rfl) _
 have M6 : Mod (fun q => q = g ∨ q = g + 1) w3 ((((((((((w4.setCell ⟨g + 1, 0, none⟩ (.int .i64 e.ag)).setCell ⟨g + 1, 1, none⟩ (.int .i64 e.kind)).setCell ⟨g + 1, 2, none⟩ (.bool e.seq)).setCell ⟨g + 1, 3, none⟩ (.bool e.nt)).setCell ⟨g + 1, 4, none⟩ (.int .i64 e.blk)).setCell ⟨g + 1, 5, none⟩ (.int .i64 e.at_)).setCell ⟨g + 1, 6, none⟩ (.int .i64 e.size)).setCell ⟨g + 1, 7, none⟩ (.slice la1 e.rd.length lc1)).setCell ⟨g + 1, 8, none⟩ (.slice la2 e.wr.length lc2)).setCell ⟨g + 1, 9, none⟩ (.slice la3 e.fr.length lc3)) := (M4.weak (fun q h => .inl (.inl h))).trans' M5 (fun q h => .inl (.inr h))
 refine ⟨la1, lc1, la2, lc2, la3, lc3, rfl, hO.mod M6 (fun k hk h => ?_), (x0.trans HE.out).trans' M6 (fun k h => .inr (by omega)), fun k hk => Nat.le_trans x0.size (hF k hk)⟩
 rcases h with rfl | rfl
 · exact hO.apart z0 (by decide) (by decide) hk
 · exact hO.apart z1 (by decide) (by decide) hk
end Go.Proofs.YtbhocahmhmafmaaGreat
namespace Go.Ren
theorem flat_take (sz n N : Nat) (f : Nat → Nat → Value) (h : N ≤ n) : (flat sz n f).take (N * sz) = flat sz N f := by
 have h2 : N * sz ≤ n * sz := Nat.mul_le_mul_right _ h
 unfold flat
 rw [← List.map_take, List.take_range, Nat.min_eq_left h2]
def headN (L : Lg) (n : Int) : Nat := min n.toNat L.ev.length
def inHead (N : Nat) (p : Int × Int) : Bool := decide (0 ≤ p.1 ∧ p.1 < (N : Int) ∧ 0 ≤ p.2 ∧ p.2 < (N : Int))
def headL (L : Lg) (n : Int) : Lg := ⟨L.ev.take (headN L n), L.pr.filter (inHead (headN L n))⟩
def evUpd {α : Type} (f : Nat → α) (n : Nat) (v : α) : Nat → α := fun i => if i = n then v else f i
end Go.Ren
namespace Go.Proofs.YtbhocahmhmafmaaGreat
open Go.Ren Go.RowKit
set_option linter.unusedVariables false
structure LogOwn (w : World) (ve vp : Value) (V : Nat → Vs) (L : Lg) : Prop where
 row : Own w 70 10 ve L.ev.length (flat 10 L.ev.length (fun i j => evcell (evn L.ev i) (V i) j))
 ev : ∀ i, i < L.ev.length → EvOwn w (evn L.ev i) (V i)
 prow : Own w 112 2 vp L.pr.length (flat 2 L.pr.length (fun i j => prcell (prn L.pr i) j))
def LogFp (ve vp : Value) (V : Nat → Vs) (n : Nat) (k : Nat) : Prop := ve.ownBlock = some k ∨ vp.ownBlock = some k ∨ ∃ i, i < n ∧ EvFp (V i) k
theorem LogOwn.in_ {w : World} {ve vp : Value} {V : Nat → Vs} {L : Lg} (h : LogOwn w ve vp V L) (ok : ∀ i, i < L.ev.length → EvI (evn L.ev i)) (pok : ∀ i, i < L.pr.length → I64 (prn L.pr i).1 ∧ I64 (prn L.pr i).2) : LogIn w ve vp V L :=
 ⟨h.row.sl, fun i hi => (h.ev i hi).at_ (ok i hi), h.prow.sl, pok⟩
theorem LogOwn.ext {w w' : World} {ve vp : Value} {V : Nat → Vs} {L : Lg} (h : LogOwn w ve vp V L) (x : Ext w w') : LogOwn w' ve vp V L := ⟨h.row.ext x, fun i hi => (h.ev i hi).ext x, h.prow.ext x⟩
theorem one10 {e : Ev} {v : Vs} (h1 : v.r.oneCell' = true) (h2 : v.w.oneCell' = true) (h3 : v.f.oneCell' = true) : ∀ x ∈ (evArr e v).toList, x.oneCell' = true := by
 intro x hx
 simp at hx
 rcases hx with rfl | rfl | rfl | rfl | rfl | rfl | rfl | rfl | rfl | rfl <;> first | rfl | assumption
theorem evrow_snoc (E : Nat → Ev) (V : Nat → Vs) (k : Nat) (v : Vs) : flat 10 (k + 1) (fun i j => evcell (E i) (evUpd V k v i) j) = flat 10 k (fun i j => evcell (E i) (V i) j) ++ (evArr (E k) v).toList := by
 rw [flat_succ _ _ _ (by decide)]
 congr 1
 · exact flat_congr fun i j hi _ => by simp [evUpd, show i ≠ k by omega]
 · simp [List.range, List.range.loop, evcell, evUpd]
structure Small (L : Lg) : Prop where
 ev : L.ev.length ≤ 1000
 pr : L.pr.length ≤ 1000
 ls : ∀ i, i < L.ev.length → (evn L.ev i).rd.length ≤ 20000 ∧ (evn L.ev i).wr.length ≤ 20000 ∧ (evn L.ev i).fr.length ≤ 20000
theorem evrow_cells {w : World} {ve : Value} {V : Nat → Vs} {E : Nat → Ev} {n : Nat} (h : Sl w ve 10 n (flat 10 n (fun i j => evcell (E i) (V i) j))) {i : Nat} (hi : i < n) :
 w.cell? (at_ ve (i * 10)) = some (.int .i64 (E i).ag) ∧ w.cell? ⟨(at_ ve (i * 10)).block, (at_ ve (i * 10)).off + 1, none⟩ = some (.int .i64 (E i).kind) ∧ w.cell? ⟨(at_ ve (i * 10)).block, (at_ ve (i * 10)).off + 2, none⟩ = some (.bool (E i).seq) ∧
 w.cell? ⟨(at_ ve (i * 10)).block, (at_ ve (i * 10)).off + 3, none⟩ = some (.bool (E i).nt) ∧ w.cell? ⟨(at_ ve (i * 10)).block, (at_ ve (i * 10)).off + 4, none⟩ = some (.int .i64 (E i).blk) ∧ w.cell? ⟨(at_ ve (i * 10)).block, (at_ ve (i * 10)).off + 5, none⟩ = some (.int .i64 (E i).at_) ∧
 w.cell? ⟨(at_ ve (i * 10)).block, (at_ ve (i * 10)).off + 6, none⟩ = some (.int .i64 (E i).size) ∧ w.cell? ⟨(at_ ve (i * 10)).block, (at_ ve (i * 10)).off + 7, none⟩ = some (V i).r ∧ w.cell? ⟨(at_ ve (i * 10)).block, (at_ ve (i * 10)).off + 8, none⟩ = some (V i).w ∧ w.cell? ⟨(at_ ve (i * 10)).block, (at_ ve (i * 10)).off + 9, none⟩ = some (V i).f := by
 have g : ∀ j, j < 10 → (flat 10 n (fun i j => evcell (E i) (V i) j))[i * 10 + j]? = some (evcell (E i) (V i) j) := fun j hj => flat_get (sz := 10) _ hi hj
 exact ⟨h.cell _ _ (g 0 (by decide)), h.cell_off (by decide) (g 1 (by decide)), h.cell_off (by decide) (g 2 (by decide)), h.cell_off (by decide) (g 3 (by decide)), h.cell_off (by decide) (g 4 (by decide)),
  h.cell_off (by decide) (g 5 (by decide)), h.cell_off (by decide) (g 6 (by decide)), h.cell_off (by decide) (g 7 (by decide)), h.cell_off (by decide) (g 8 (by decide)), h.cell_off (by decide) (g 9 (by decide))⟩
structure HeadRel1 (L : Lg) (g5 : Nat) (w0 : World) (k : Nat) (wr : World) : Prop where
 ex : ∃ (hv : Value) (V : Nat → Vs), wr.heap[g5]? = some (.cells #[hv, .slice none 0 0] 48 (0, 0)) ∧ Own wr 70 10 hv k (flat 10 k (fun i j => evcell (evn L.ev i) (V i) j)) ∧ (∀ i, i < k → EvOwn wr (evn L.ev i) (V i)) ∧
  (∀ q, hv.ownBlock = some q → w0.heap.size ≤ q) ∧ ∀ i q, i < k → EvFp (V i) q → w0.heap.size ≤ q
 md : Mod (fun q => q = g5) w0 wr
structure HeadRel2 (L : Lg) (N g5 : Nat) (w0 : World) (hv : Value) (V : Nat → Vs) (i : Nat) (wr : World) : Prop where
 ex : ∃ pv : Value, wr.heap[g5]? = some (.cells #[hv, pv] 48 (0, 0)) ∧ LogOwn wr hv pv V ⟨L.ev.take N, (L.pr.take i).filter (inHead N)⟩ ∧ (∀ q, pv.ownBlock = some q → w0.heap.size ≤ q)
 md : Mod (fun q => q = g5) w0 wr
theorem evn_take {L : List Ev} {N i : Nat} (h : i < N) : evn (L.take N) i = evn L i := by simp [evn, h]
theorem prn_snoc_lt {l : List (Int × Int)} {p : Int × Int} {i : Nat} (h : i < l.length) : prn (l ++ [p]) i = prn l i := by simp [prn, List.getElem?_append_left h]
theorem prn_snoc {l : List (Int × Int)} {p : Int × Int} : prn (l ++ [p]) l.length = p := by simp [prn]
theorem filt_in {L : List (Int × Int)} {i N : Nat} (h : i < L.length) (hp : inHead N (prn L i) = true) : (L.take (i + 1)).filter (inHead N) = (L.take i).filter (inHead N) ++ [prn L i] := by
 rw [List.take_succ_eq_append_getElem h, List.filter_append, ← prn_eq h]; simp [hp]
theorem filt_out {L : List (Int × Int)} {i N : Nat} (h : i < L.length) (hp : inHead N (prn L i) = false) : (L.take (i + 1)).filter (inHead N) = (L.take i).filter (inHead N) := by
 rw [List.take_succ_eq_append_getElem h, List.filter_append, ← prn_eq h]; simp [hp]
theorem one2i (a b : Int) : ∀ x ∈ [Value.int .i64 a, Value.int .i64 b], x.oneCell' = true := by
 intro x hx; simp at hx; rcases hx with rfl | rfl <;> rfl
theorem head_push {w w9 : World} {g5 : Nat} {hv pv pv9 : Value} {V : Nat → Vs} {L : Lg} {p : Int × Int} (hb5 : w.heap[g5]? = some (.cells #[hv, pv] 48 (0, 0))) (h : LogOwn w hv pv V L) (M9 : Mod (fun q => pv.ownBlock = some q) w w9)
 (ol : Own w9 112 2 pv9 (L.pr.length + 1) (flat 2 L.pr.length (fun i j => prcell (prn L.pr i) j) ++ [.int .i64 p.1, .int .i64 p.2])) :
 (w9.setCell ⟨g5, 1, none⟩ pv9).heap[g5]? = some (.cells #[hv, pv9] 48 (0, 0)) ∧ LogOwn (w9.setCell ⟨g5, 1, none⟩ pv9) hv pv9 V ⟨L.ev, L.pr ++ [p]⟩ := by
 have z5 := M9.blk hb5 (fun h' => h.prow.apart_obj hb5 (by decide) h')
 have Ms : Mod (fun q => q = g5) w9 (w9.setCell ⟨g5, 1, none⟩ pv9) := Mod.setCell (F := fun q => q = g5) (Mod.refl _ _) (.inl rfl) _
 have r9 := h.row.mod M9 (fun k hk hl => h.row.apart h.prow (by decide) hk hl)
 refine ⟨by simp [World.setCell, Array.getElem?_modify, z5], r9.mod Ms (fun q hq hl => by subst hl; exact r9.apart_obj z5 (by decide) hq), fun i hi => ?_, ?_⟩
 · have he := h.ev i hi
   have h2 : EvOwn w9 (evn L.ev i) (V i) := he.mod M9 (fun q hq hl => by
    rcases hq with h3 | h3 | h3
    · exact he.rd.apart h.prow (by decide) h3 hl
    · exact he.wr.apart h.prow (by decide) h3 hl
    · exact he.fr.apart h.prow (by decide) h3 hl)
   exact h2.mod Ms (fun q hq hl => by subst hl; exact h2.apart z5 (by decide) (by decide) hq)
 · have e : flat 2 (L.pr.length + 1) (fun i j => prcell (prn (L.pr ++ [p]) i) j) = flat 2 L.pr.length (fun i j => prcell (prn L.pr i) j) ++ [.int .i64 p.1, .int .i64 p.2] := by
    rw [flat_succ _ _ _ (by decide)]
    congr 1
    · exact flat_congr fun i j hi _ => by rw [prn_snoc_lt hi]
    · simp [List.range, List.range.loop, prcell, prn_snoc]
   show Own _ _ 2 pv9 (L.pr ++ [p]).length (flat 2 (L.pr ++ [p]).length _)
   rw [List.length_append, List.length_singleton, e]
   exact ol.mod Ms (fun q hq hl => by subst hl; exact ol.apart_obj z5 (by decide) hq)
def HeadPost (L : Lg) (n : Int) (w : World) (r : Ending) (w' : World) : Prop := ∃ hv pv V', r = .returned (.agg #[hv, pv]) ∧ LogOwn w' hv pv V' (headL L n) ∧ Ext w w' ∧ ∀ k, LogFp hv pv V' (headL L n).ev.length k → w.heap.size ≤ k
set_option maxRecDepth 100000 in
set_option maxHeartbeats 1600000 in
theorem head_any (w : World) (ve vp : Value) (V : Nat → Vs) (L : Lg) (h : LogIn w ve vp V L) (n : Int) (hn : I64 n) (hsm : Small L) :
 Calls Tryz.prog 124 #[.agg #[ve, vp], .int .i64 n] w (HeadPost L n w) := by
 have q1 := Sl.cells_eq h.row
 have q2 := Sl.cells_eq h.prow
 have s1 := Sl.run_st (P := Tryz.prog) h.row
 have s2 := Sl.run_st (P := Tryz.prog) h.prow
 have l1 := h.row.run_len (P := Tryz.prog) IEv.und 3
 have l2 := h.prow.run_len (P := Tryz.prog) IP.und 3
 obtain ⟨N, hN⟩ : ∃ N, N = headN L n := ⟨_, rfl⟩
 have hNle : N ≤ L.ev.length := by rw [hN]; unfold headN; omega
 have s3 := h.row.run_sub_hi (P := Tryz.prog) IEv.und IEv.size .i64 N hNle
 have hsub := h.row.sub 0 N (Nat.zero_le _) hNle
 rw [Nat.zero_mul, Nat.sub_zero, List.drop_zero, flat_take 10 _ N _ hNle] at hsub
 have l3 := hsub.run_len (P := Tryz.prog) IEv.und 3
 have HJ := Lib.hid (h.prow.run_idx (P := Tryz.prog) IP.und IP.size .i64)
 obtain ⟨vs, hvs⟩ : ∃ v, v = sub_ ve 0 N 10 := ⟨_, rfl⟩
 rw [← hvs] at s3 hsub l3
 have HI := Lib.hid (hsub.run_idx (P := Tryz.prog) IEv.und IEv.size .i64)
 obtain ⟨w0, hw0⟩ : ∃ w0, w0 = ((w.alloc (.cells #[ve, vp] 48)).alloc (.cells #[.slice none 0 0, .slice none 0 0] 48)).alloc (.cells #[.slice none 0 0, .slice none 0 0] 48) := ⟨_, rfl⟩
 obtain ⟨g2, hg2⟩ : ∃ g, g = w.heap.size := ⟨_, rfl⟩
 have x0 : Ext w w0 := by rw [hw0]; exact (((Mod.refl _ _).alloc _).alloc _).alloc _
 have b2 : w0.heap[g2]? = some (.cells #[ve, vp] 48 (0, 0)) := by rw [hw0, hg2]; simp only [heap_alloc_if, World.size_alloc]; repeat (first | rfl | rw [if_pos (by omega)] | rw [if_neg (by omega)])
 have b4 : w0.heap[g2 + 1]? = some (.cells #[.slice none 0 0, .slice none 0 0] 48 (0, 0)) := by rw [hw0, hg2]; simp only [heap_alloc_if, World.size_alloc]; repeat (first | rfl | rw [if_pos (by omega)] | rw [if_neg (by omega)])
 have b5 : w0.heap[g2 + 1 + 1]? = some (.cells #[.slice none 0 0, .slice none 0 0] 48 (0, 0)) := by rw [hw0, hg2]; simp only [heap_alloc_if, World.size_alloc]; repeat (first | rfl | rw [if_pos (by omega)] | rw [if_neg (by omega)])
 have c20 : w0.cell? ⟨g2, 0, none⟩ = some ve := by simp [World.cell?, b2]
 have c21 : w0.cell? ⟨g2, 1, none⟩ = some vp := by simp [World.cell?, b2]
 have HW := Lib.hid (And.intro hw0 (And.intro hg2 (And.intro x0 (And.intro b2 (And.intro b4 (And.intro b5 (And.intro h (And.intro hsub (And.intro hN hsm)))))))))
 have hm : (L.ev.length : Int) ≤ 1000 := by have := hsm.ev; omega
 have hm2 : (L.pr.length : Int) ≤ 1000 := by have := hsm.pr; omega
 have hNc : (N : Int) = max (min n (L.ev.length : Int)) 0 := by rw [hN]; unfold headN; omega
 have HNC := Lib.hid hNc
 have R0 : HeadRel1 L (g2 + 1 + 1) w0 0 w0 := ⟨⟨.slice none 0 0, fun _ => ⟨undef, undef, undef⟩, b5, Own.nil _ _ _, fun i hi => by omega, fun q hq => (by cases hq), fun i q hi => by omega⟩, Mod.refl _ _⟩
 clear hw0 hg2 x0 b2 b4 b5 h hsub hN hsm hNc hvs
 unfold I64 at hn
 go_enter Tryz.func124, Tryz.ntmps124
 go_upto_region 2 with fail
 rw [← HW.out.1, ← HW.out.2.1]
 clear s1 s2
 go_cut [1] (fun s1 wx => s1 = .int .i64 (N : Int) ∧ wx = w0)
 case first =>
  rcases (by omega : n < 0 ∨ (0 ≤ n ∧ n ≤ L.ev.length) ∨ (0 ≤ n ∧ (L.ev.length : Int) < n)) with z | ⟨z, z'⟩ | ⟨z, z'⟩
  all_goals
   go_wp2_with fail
   go_meet
   have hc := HNC.out
   refine ⟨?_, rfl⟩
   congr 1
   omega
 case rest =>
  obtain ⟨rfl, hwc⟩ := hcut
  rw [hwc]
  clear hwc
  go_wp2_with fail
  obtain ⟨g5, hg5⟩ : ∃ g, g = g2 + 1 + 1 := ⟨_, rfl⟩
  rw [← hg5] at R0
  rw [← hg5]
  have HG5 := Lib.hid hg5
  clear hg5
  go_loopw [21] (fun s21 wr => ∃ k : Nat, k ≤ N ∧ s21 = .int .i64 (k : Int) ∧ HeadRel1 L g5 w0 k wr) (fun i _ => N - (intOf i).toNat)
  case atStart => exact ⟨0, Nat.zero_le _, rfl, R0⟩
  case round =>
   obtain ⟨k, hk, rfl, hr⟩ := hrel
   clear R0
   obtain ⟨⟨hv, V', hb5, ho, hev', hf1, hf2⟩, md⟩ := hr
   have X : Ext w wr := HW.out.2.2.1.trans' md (fun q h => .inr (by have := HW.out.2.1; have := HG5.out; omega))
   by_cases hlt : k < N
   · have hlt' : (k : Int) < (N : Int) := by omega
     have i0 := HI.out k hlt
     obtain ⟨c0, c1, c2, c3, c4, c5, c6, c7, c8, c9⟩ := evrow_cells (HW.out.2.2.2.2.2.2.2.1.ext (by decide) X) hlt
     have hea := (HW.out.2.2.2.2.2.2.1.ext X).ev k (by omega)
     have hls := HW.out.2.2.2.2.2.2.2.2.2.ls k (by omega)
     obtain ⟨e, he⟩ : ∃ e, e = evn L.ev k := ⟨_, rfl⟩
     obtain ⟨v, hv_⟩ : ∃ v, v = V k := ⟨_, rfl⟩
     obtain ⟨A, hA⟩ : ∃ A, A = at_ vs (k * 10) := ⟨_, rfl⟩
     rw [← hA] at i0 c0 c1 c2 c3 c4 c5 c6 c7 c8 c9
     rw [← he] at c0 c1 c2 c3 c4 c5 c6 hea hls
     rw [← hv_] at c7 c8 c9 hea
     obtain ⟨k1, k2, k3, t1, t2, t3⟩ := ev_facts hea
     obtain ⟨w7, hw7⟩ : ∃ w7, w7 = wr.alloc (.cells (evArr e v) 70) := ⟨_, rfl⟩
     obtain ⟨g7, hg7⟩ : ∃ g, g = wr.heap.size := ⟨_, rfl⟩
     have x7 : Ext wr w7 := by rw [hw7]; exact (Mod.refl _ _).alloc _
     have b7 : EvBox w7 g7 e v := by rw [hw7, hg7]; exact EvBox.of wr e v
     have keyM : ∀ w', Mod (fun q => hv.ownBlock = some q) w7 w' → (w'.cell? ⟨g5, 0, none⟩ = some hv ∧ w'.cell? ⟨g7, 0, none⟩ = some (.int .i64 e.ag) ∧ w'.cell? ⟨g7, 1, none⟩ = some (.int .i64 e.kind) ∧ w'.cell? ⟨g7, 2, none⟩ = some (.bool e.seq) ∧ w'.cell? ⟨g7, 3, none⟩ = some (.bool e.nt) ∧ w'.cell? ⟨g7, 4, none⟩ = some (.int .i64 e.blk) ∧ w'.cell? ⟨g7, 5, none⟩ = some (.int .i64 e.at_) ∧ w'.cell? ⟨g7, 6, none⟩ = some (.int .i64 e.size) ∧ w'.cell? ⟨g7, 7, none⟩ = some v.r ∧ w'.cell? ⟨g7, 8, none⟩ = some v.w ∧ w'.cell? ⟨g7, 9, none⟩ = some v.f) ∧ w'.frozen? ⟨g5, 0, none⟩ = false := fun w' M => by
      have h5 := M.blk (x7.blk hb5) (fun h => ho.apart_obj hb5 (by decide) h)
      have h7 := M.blk b7.b (fun h => by have := ho.lt h; omega)
      exact ⟨by simp [World.cell?, h5, h7], by simp [World.frozen?, h5]⟩
     have keyE : ∀ w', Ext w7 w' → True ∧ EvAt w' e v := fun w' x => ⟨trivial, hea.ext (x7.trans x)⟩
     have KM := Lib.hid keyM
     have KY := Lib.hid keyE
     have HL : Hid (e.rd.length ≤ 1000000 ∧ e.wr.length ≤ 1000000 ∧ e.fr.length ≤ 1000000) := Lib.hid (by omega)
     have HX := Lib.hid (And.intro hw7 (And.intro hg7 (And.intro he x7)))
     have HR := Lib.hid (And.intro hb5 (And.intro ho (And.intro hev' (And.intro hf1 (And.intro hf2 (And.intro md X))))))
     clear hb5 ho hev' hf1 hf2 md X hea hls he hv_ hA hw7 hg7 x7 b7 keyM keyE
     go_upto_region 6 with fail
     rw [← HX.out.1, ← HX.out.2.1]
     clear c0 c1 c2 c3 c4 c5 c6 c7 c8 c9 k1 k2 k3 t1 t2 t3 i0
     obtain ⟨⟨c50, c0, c1, c2, c3, c4, c5, c6, c7, c8, c9⟩, f5⟩ := KM.out w7 (Mod.refl _ _)
     refine wp_region_planL [7] [(0, 3), (1, 0), (2, 0), (3, 1), (4, 1), (5, 1), (6, 3), (7, 2)] (fun w' => w'.cell? ⟨g5, 0, none⟩ = some hv ∧ w'.cell? ⟨g7, 0, none⟩ = some (.int .i64 e.ag) ∧ w'.cell? ⟨g7, 1, none⟩ = some (.int .i64 e.kind) ∧ w'.cell? ⟨g7, 2, none⟩ = some (.bool e.seq) ∧ w'.cell? ⟨g7, 3, none⟩ = some (.bool e.nt) ∧ w'.cell? ⟨g7, 4, none⟩ = some (.int .i64 e.blk) ∧ w'.cell? ⟨g7, 5, none⟩ = some (.int .i64 e.at_) ∧ w'.cell? ⟨g7, 6, none⟩ = some (.int .i64 e.size) ∧ w'.cell? ⟨g7, 7, none⟩ = some v.r ∧ w'.cell? ⟨g7, 8, none⟩ = some v.w ∧ w'.cell? ⟨g7, 9, none⟩ = some v.f) (by kernel_rfl) (by kernel_rfl) (by kernel_rfl) (fun _ d _ _ _ h => by cases d <;> exact h) ((KM.out _ ((Mod.drew (Mod.refl _ _)))).1) ?_
     simp only [planLL, getO]
     (refine planL_pure (v := ?_) (by rfl) (fun wS => ?_) ?_; rotate_left; (focus (go_simp; (try with_reducible rfl); done)); (try simp only [Act.put, List.setIfInBounds_toArray, List.set_cons_zero, List.set_cons_succ]))
     iterate 2 (refine planL_take (v := ?_) (by rfl) (fun wS hS => ?_) ?_; rotate_left; (focus ((try dsimp only at hS); go_simp; (try with_reducible rfl); done)); (try simp only [Act.put, List.setIfInBounds_toArray, List.set_cons_zero, List.set_cons_succ]))
     refine planL_call (fun K hK => ?_)
     go_simp
     go_at_call 157; refine (copied_any _ e v (KY.out _ (Mod.drew (Mod.refl _ _))).2 HL.out).mono ?_; rintro en w8 ⟨la1, lc1, la2, lc2, la3, lc3, rfl, oO, y8, f8⟩; have E8 : Ext w7 w8 := Mod.trans (Mod.drew (Mod.refl _ _)) y8
     refine hK.out _ _ ((KM.out _ (Ext.mod E8 _)).1) ?_
     clear hK K
     (try simp only [Act.put, List.setIfInBounds_toArray, List.set_cons_zero, List.set_cons_succ])
     refine planL_call (fun K hK => ?_)
     go_simp
     skip
     refine hK.out _ _ ((KM.out _ (Ext.mod (E8.alloc _) _)).1) ?_
     clear hK K
     (try simp only [Act.put, List.setIfInBounds_toArray, List.set_cons_zero, List.set_cons_succ])
     refine planL_call (fun K hK => ?_)
     refine step_app IEv rfl (.tmp 26) (.tmp 29) rfl (HR.out.2.1.ext ((HX.out.2.2.2.trans E8).alloc _)) (built_sl (n := 1) (g := w8.heap.size) (e := 70) (cs := evArr e ⟨.slice la1 e.rd.length lc1, .slice la2 e.wr.length lc2, .slice la3 e.fr.length lc3⟩) (by simp only [heap_alloc_if, if_true]) rfl (by simp only [maxLen]; omega)) (one10 rfl rfl rfl) (by simp [Act.eval]) (by simp [Act.eval]) (by omega) (by simp only [maxLen]; omega) ?_; intro hv9 w9 ol9 gr9 fr9 nn9; obtain ⟨la9, lc9, hlv9, _⟩ := ol9.sl.shape; subst hlv9; have M9 : Mod (fun q => hv.ownBlock = some q) w8 w9 := Mod.grown (Mod.alloc (Mod.refl _ _) _) gr9 (fun q h => .inl h); have MM : Mod (fun q => hv.ownBlock = some q) w7 w9 := (Ext.mod E8 _).trans M9
     refine hK.out _ _ ((KM.out _ MM).1) ?_
     clear hK K
     (try simp only [Act.put, List.setIfInBounds_toArray, List.set_cons_zero, List.set_cons_succ])
     (refine planL_pure (v := ?_) (by rfl) (fun wS => ?_) ?_; rotate_left; (focus (go_simp; (try with_reducible rfl); done)); (try simp only [Act.put, List.setIfInBounds_toArray, List.set_cons_zero, List.set_cons_succ]))
     obtain ⟨⟨e50, -⟩, ef5⟩ := KM.out w9 MM
     refine planL_late (fun K hK => ?_)
     go_simp
     refine hK.out _ _ ?_
     clear hK K
     (try simp only [Act.put, List.setIfInBounds_toArray, List.set_cons_zero, List.set_cons_succ])
     refine planL_nil ?_
     have H9 := Lib.hid (And.intro ol9 (And.intro fr9 (And.intro M9 (And.intro MM (And.intro oO (And.intro f8 E8))))))
     clear ol9 gr9 fr9 nn9 M9 MM oO f8 E8 y8 e50 ef5 c50 c0 c1 c2 c3 c4 c5 c6 c7 c8 c9 f5
     go_wp2_with fail
     go_roundw
     case rel =>
      obtain ⟨ol9, fr9, M9, MM, oO, f8, E8⟩ := H9.out
      obtain ⟨hb5, ho, hev', hf1, hf2, md, X⟩ := HR.out
      obtain ⟨hw7, hg7, he, x7⟩ := HX.out
      have hx8 : Ext wr w8 := x7.trans E8
      have z5 := M9.blk (hx8.blk hb5) (fun h => (ho.ext hx8).apart_obj (hx8.blk hb5) (by decide) h)
      have Ms : Mod (fun q => q = g5) w9 (w9.setCell ⟨g5, 0, none⟩ (.slice la9 (k + 1) lc9)) := Mod.setCell (F := fun q => q = g5) (Mod.refl _ _) (.inl rfl) _
      have hz8 : w0.heap.size ≤ w8.heap.size := Nat.le_trans md.size hx8.size
      have kp : ∀ {e : Ev} {v : Vs}, EvOwn w8 e v → EvOwn (w9.setCell ⟨g5, 0, none⟩ (.slice la9 (k + 1) lc9)) e v := fun {e v} h => by
       have ho8 := ho.ext hx8
       have h2 : EvOwn w9 e v := h.mod M9 (fun q hq hl => by
        rcases hq with h3 | h3 | h3
        · exact h.rd.apart ho8 (by decide) h3 hl
        · exact h.wr.apart ho8 (by decide) h3 hl
        · exact h.fr.apart ho8 (by decide) h3 hl)
       exact h2.mod Ms (fun q hq hl => by subst hl; exact h2.apart z5 (by decide) (by decide) hq)
      refine ⟨k + 1, by omega, by go_num, ⟨.slice la9 (k + 1) lc9, evUpd V' k ⟨.slice la1 e.rd.length lc1, .slice la2 e.wr.length lc2, .slice la3 e.fr.length lc3⟩, ?_, ?_, fun i hi => ?_, fun q hq => ?_, fun i q hi hq => ?_⟩, ?_⟩
      · simp [World.setCell, Array.getElem?_modify, z5]
      · rw [evrow_snoc, ← he]
        exact ol9.mod Ms (fun q hq hl => by subst hl; exact ol9.apart_obj z5 (by decide) hq)
      · by_cases e0 : i = k
        · subst e0; rw [← he]; simp only [evUpd, if_true]; exact kp oO
        · have e1 : evUpd V' k ⟨.slice la1 e.rd.length lc1, .slice la2 e.wr.length lc2, .slice la3 e.fr.length lc3⟩ i = V' i := by simp [evUpd, e0]
          rw [e1]; exact kp ((hev' i (by omega)).ext hx8)
      · rcases fr9 q hq with h | h
        · exact hf1 q h
        · simp only [World.size_alloc] at h; omega
      · by_cases e0 : i = k
        · subst e0; simp only [evUpd, if_true] at hq
          have := f8 q hq
          have := x7.size; have := md.size
          simp only [World.size_drew] at *; omega
        · have e1 : evUpd V' k ⟨.slice la1 e.rd.length lc1, .slice la2 e.wr.length lc2, .slice la3 e.fr.length lc3⟩ i = V' i := by simp [evUpd, e0]
          rw [e1] at hq; exact hf2 i q (by omega) hq
      · exact ((md.ext hx8).trans' M9 (fun q hq => .inr (hf1 q hq))).trans' Ms (fun q hq => .inl hq)
     case measure => simp [intOf]; omega
   · have hlt' : ¬ (k : Int) < (N : Int) := by omega
     obtain rfl : k = N := by omega
     have hne : g2 ≠ g5 := by have := HG5.out; omega
     have d20 := md.cell c20 hne
     have d21 := md.cell c21 hne
     have hd4 : wr.heap[g2 + 1]? = some (.cells #[.slice none 0 0, .slice none 0 0] 48 (0, 0)) := md.blk HW.out.2.2.2.2.1 (by have := HG5.out; omega)
     have R2 : HeadRel2 L k g5 w0 hv V' 0 wr := by
      have hl : (L.ev.take k).length = k := by simp; omega
      refine ⟨⟨.slice none 0 0, hb5, ⟨?_, fun i hi => ?_, Own.nil _ _ _⟩, fun q hq => (by cases hq)⟩, md⟩
      · show Own wr _ 10 hv (L.ev.take k).length (flat 10 (L.ev.take k).length fun i j => evcell (evn (L.ev.take k) i) (V' i) j)
        rw [hl, flat_congr (g := fun i j => evcell (evn L.ev i) (V' i) j) (fun i j hi _ => by rw [evn_take hi])]
        exact ho
      · rw [show ((⟨L.ev.take k, (L.pr.take 0).filter (inHead k)⟩ : Lg).ev) = L.ev.take k from rfl] at hi ⊢
        rw [hl] at hi
        rw [evn_take hi]; exact hev' i hi
     have HF := Lib.hid (And.intro hf1 hf2)
     clear hb5 ho hev' hf1 hf2 hne hd4 X md
     go_wp2_with fail
     go_loopw [36] (fun s36 wr => ∃ i : Nat, i ≤ L.pr.length ∧ s36 = .int .i64 (i : Int) ∧ HeadRel2 L k g5 w0 hv V' i wr) (fun i _ => L.pr.length - (intOf i).toNat)
     case atStart => exact ⟨0, Nat.zero_le _, rfl, R2⟩
     case round =>
      obtain ⟨i, hi, rfl, ⟨⟨pv, hb5, hlo, hpf⟩, md⟩⟩ := hrel
      clear R2 d20 d21
      have X : Ext w wr := HW.out.2.2.1.trans' md (fun q h => .inr (by have := HW.out.2.1; have := HG5.out; omega))
      by_cases hil : i < L.pr.length
      · have hil' : (i : Int) < (L.pr.length : Int) := by omega
        have j0 := HJ.out i hil
        obtain ⟨c0, c1⟩ := (HW.out.2.2.2.2.2.2.1.ext X).pcells hil
        have hfi := filt_in (N := k) hil
        have hfo := filt_out (N := k) hil
        obtain ⟨p, hp⟩ : ∃ p, p = prn L.pr i := ⟨_, rfl⟩
        rw [← hp] at c0 c1 hfi hfo
        obtain ⟨⟨p1, p2⟩, hpp⟩ : ∃ q : Int × Int, q = p := ⟨_, rfl⟩
        subst hpp
        simp only at c0 c1
        obtain ⟨A, hA⟩ : ∃ A, A = at_ vp (i * 2) := ⟨_, rfl⟩
        rw [← hA] at j0 c0 c1
        have hpl : ((L.pr.take i).filter (inHead k)).length ≤ 1000 := Nat.le_trans (List.length_filter_le _ _) (by simp; omega)
        have e5 : (wr.alloc (.cells #[.int .i64 p1, .int .i64 p2] 112)).cell? ⟨g5, 1, none⟩ = some pv := Ext.cell ((Mod.refl _ _).alloc _) (by simp [World.cell?, hb5])
        have HR := Lib.hid (And.intro hb5 (And.intro hlo (And.intro hpf (And.intro md (And.intro hfi hfo)))))
        clear hb5 hlo hpf md hfi hfo hp hA X
        rcases (by omega : p1 < 0 ∨ (0 ≤ p1 ∧ (k : Int) ≤ p1) ∨ (0 ≤ p1 ∧ p1 < k ∧ p2 < 0) ∨ (0 ≤ p1 ∧ p1 < k ∧ 0 ≤ p2 ∧ (k : Int) ≤ p2) ∨ (0 ≤ p1 ∧ p1 < k ∧ 0 ≤ p2 ∧ p2 < k)) with z1 | ⟨z1, z2⟩ | ⟨z1, z2, z3⟩ | ⟨z1, z2, z3, z4⟩ | ⟨z1, z2, z3, z4⟩
        case inr.inr.inr.inr =>
         have HT := Lib.hid (HR.out.2.2.2.2.1 (by simp [inHead]; omega))
         have ho := HR.out.2.1.prow
         obtain ⟨Lp, hLp⟩ : ∃ l, l = (L.pr.take i).filter (inHead k) := ⟨_, rfl⟩
         have hown : Own wr 112 2 pv Lp.length (flat 2 Lp.length (fun i j => prcell (prn Lp i) j)) := by rw [hLp]; exact ho
         rw [← hLp] at hpl HT
         have HLp := Lib.hid hLp
         clear ho hLp
         go_wp2_with (at_builtin; go_loud (refine wpList_app IP rfl (.tmp 61) (.tmp 63) rfl (hown.ext (Mod.alloc (Mod.alloc (Mod.refl _ _) _) _)) (built_sl (n := 1) (g := wr.heap.size + 1) (e := 112) (cs := #[.int .i64 p1, .int .i64 p2]) (by simp only [heap_alloc_if, World.size_alloc, if_true]) rfl (by simp only [maxLen]; omega)) (one2i _ _) (by simp [Act.eval]) (by simp [Act.eval]) (by omega) (by simp only [maxLen]; omega) ?_); intro pv9 w9 ol9 gr9 fr9 nn9; obtain ⟨la9, lc9, hlv9, _⟩ := ol9.sl.shape; subst hlv9; have M9 : Mod (fun q => pv.ownBlock = some q) wr w9 := Mod.grown (Mod.alloc (Mod.alloc (Mod.refl _ _) _) _) gr9 (fun q h => .inl h); have z5 := M9.blk HR.out.1 (fun h => hown.apart_obj HR.out.1 (by decide) h); have c9 : w9.cell? ⟨g5, 1, none⟩ = some pv := (by simp [World.cell?, z5]); have f9 : w9.frozen? ⟨g5, 1, none⟩ = false := (by simp [World.frozen?, z5]); have H9 := Lib.hid (And.intro ol9 (And.intro fr9 M9)); clear ol9 gr9 fr9 nn9 M9 z5)
         go_roundw
         case rel =>
          obtain ⟨ol9, fr9, M9⟩ := H9.out
          obtain ⟨hb5, hlo, hpf, md, -, -⟩ := HR.out
          rw [← HLp.out] at hlo
          obtain ⟨P1, P2⟩ := head_push (p := (p1, p2)) hb5 hlo M9 ol9
          refine ⟨i + 1, by omega, by go_num, ⟨⟨_, P1, by rw [HT.out]; exact P2, fun q hq => ?_⟩, (md.trans' M9 (fun q hq => .inr (hpf q hq))).trans' (Mod.setCell (F := fun q => q = g5) (Mod.refl _ _) (.inl rfl) _) (fun q hq => .inl hq)⟩⟩
          rcases fr9 q hq with h | h
          · exact hpf q h
          · simp only [World.size_alloc] at h; have := md.size; omega
         case measure => simp [intOf]; omega
        all_goals
         have HT := Lib.hid (HR.out.2.2.2.2.2 (by simp [inHead]; omega))
         go_wp2_with fail
         go_roundw
         case rel =>
          obtain ⟨hb5, hlo, hpf, md, -, -⟩ := HR.out
          have xx : Ext wr (wr.alloc (.cells #[.int .i64 p1, .int .i64 p2] 112)) := (Mod.refl _ _).alloc _
          exact ⟨i + 1, by omega, by go_num, ⟨⟨pv, xx.blk hb5, by rw [HT.out]; exact hlo.ext xx, hpf⟩, md.ext xx⟩⟩
         case measure => simp [intOf]; omega
      · have hil' : ¬ (i : Int) < (L.pr.length : Int) := by omega
        obtain rfl : i = L.pr.length := by omega
        rw [List.take_length] at hlo
        have hd4 : wr.heap[g2 + 1]? = some (.cells #[.slice none 0 0, .slice none 0 0] 48 (0, 0)) := md.blk HW.out.2.2.2.2.1 (by have := HG5.out; omega)
        have a0 : wr.cell? ⟨g5, 0, none⟩ = some hv := by simp [World.cell?, hb5]
        have a1 : wr.cell? ⟨g5, 1, none⟩ = some pv := by simp [World.cell?, hb5]
        have b0 : wr.cell? ⟨g2 + 1, 0, none⟩ = some (.slice none 0 0) := by simp [World.cell?, hd4]
        have b1 : wr.cell? ⟨g2 + 1, 1, none⟩ = some (.slice none 0 0) := by simp [World.cell?, hd4]
        have f0 : wr.frozen? ⟨g2 + 1, 0, none⟩ = false := by simp [World.frozen?, hd4]
        have f1 : wr.frozen? ⟨g2 + 1, 1, none⟩ = false := by simp [World.frozen?, hd4]
        obtain ⟨lh, ch, hhv, _⟩ := hlo.row.sl.shape
        obtain ⟨lp, cp, hpv, _⟩ := hlo.prow.sl.shape
        have hlk : (L.ev.take k).length = k := by simp; omega
        change hv = .slice lh (L.ev.take k).length ch at hhv
        rw [hlk] at hhv
        have HS := Lib.hid (And.intro hhv hpv)
        clear hlk
        rw [hhv] at a0
        rw [hpv] at a1
        have HR := Lib.hid (And.intro hb5 (And.intro hlo (And.intro hpf (And.intro md (And.intro hd4 X)))))
        clear hb5 hlo hpf md hd4 X hhv hpv
        go_wp2_with fail
        obtain ⟨hb5, hlo, hpf, md, hd4, X⟩ := HR.out
        refine bodyPost_ret (results_cell_row rfl _ _ (g2 + 1) 48 #[hv, pv] (0, 0) _ rfl (by rw [HS.out.1, HS.out.2]; simp [World.setCell, Array.getElem?_modify, hd4]) Tryz.underlying48 rfl (by kernel_rfl)) rfl ?_
        have hNN : k = headN L n := HW.out.2.2.2.2.2.2.2.2.1
        have hg2 : g2 = w.heap.size := HW.out.2.1
        have x0 := HW.out.2.2.1
        rw [← HS.out.1, ← HS.out.2]
        have M5 : Mod (fun q => q = g2 + 1) wr ((wr.setCell ⟨g2 + 1, 0, none⟩ hv).setCell ⟨g2 + 1, 1, none⟩ pv) := Mod.setCell (F := fun q => q = g2 + 1) (Mod.setCell (F := fun q => q = g2 + 1) (Mod.refl _ _) (.inl rfl) _) (.inl rfl) _
        have hap : ∀ q, LogFp hv pv V' (L.ev.take k).length q → ¬ q = g2 + 1 := fun q hq hl => by
         subst hl
         rcases hq with h | h | ⟨i, hi, h⟩
         · exact hlo.row.apart_obj hd4 (by decide) h
         · exact hlo.prow.apart_obj hd4 (by decide) h
         · exact (hlo.ev i hi).apart hd4 (by decide) (by decide) h
        refine ⟨hv, pv, V', rfl, ?_, X.trans' M5 (fun q h => .inr (by omega)), fun q hq => ?_⟩
        · unfold headL
          rw [← hNN]
          exact ⟨hlo.row.mod M5 (fun q hq => hap q (.inl hq)), fun i hi => (hlo.ev i hi).mod M5 (fun q hq => hap q (.inr (.inr ⟨i, hi, hq⟩))), hlo.prow.mod M5 (fun q hq => hap q (.inr (.inl hq)))⟩
        · have hz := x0.size
          rcases hq with h | h | ⟨i, hi, h⟩
          · exact Nat.le_trans hz (HF.out.1 q h)
          · exact Nat.le_trans hz (hpf q h)
          · refine Nat.le_trans hz (HF.out.2 i q ?_ h)
            unfold headL at hi
            rw [← hNN] at hi
            simp at hi; omega
end Go.Proofs.YtbhocahmhmafmaaGreat
namespace Go.Ren
open Go.Proofs.YtbhocahmhmafmaaGreat
set_option linter.unusedVariables false
end Go.Ren
namespace Go.Ren
open Go.RowKit
end Go.Ren
namespace Go.Proofs.YtbhocahmhmafmaaGreat
open Go.Ren Go.RowKit
set_option linter.unusedVariables false
theorem i64_len {w : World} {v : Value} {sz n : Nat} {xs : List Value} (h : Sl w v sz n xs) : I64 (n : Int) := by
 obtain ⟨_, c, _, h1, h2, _⟩ := h.shape
 simp only [maxLen] at h2
 unfold I64; omega
theorem evArr_all {e : Ev} {v : Vs} (h1 : v.r.oneCell' = true) (h2 : v.w.oneCell' = true) (h3 : v.f.oneCell' = true) : (evArr e v).all (·.oneCell') = true := by
 rw [Array.all_eq_true_iff_forall_mem]
 intro x hx
 exact one10 h1 h2 h3 x (Array.mem_toList_iff.2 hx)
end Go.Proofs.YtbhocahmhmafmaaGreat
