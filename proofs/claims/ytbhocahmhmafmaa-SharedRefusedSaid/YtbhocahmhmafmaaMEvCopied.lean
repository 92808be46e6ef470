/-
  The contract of event.copied. No condition.
-/
import Derived.Test.YtbhocahmhmafmaaMEvReads
import Derived.Test.YtbhocahmhmafmaaMPlan
namespace Go.Proofs.Ytbhocahmhmafmaa
open Go.Ren Go.RowKit
set_option linter.unusedVariables false

/-- An event's lists in memory of their own. -/
structure EvOwn (w : World) (e : Ev) (v : Vs) : Prop where
  rd : Own w 5 1 v.r e.rd.length (e.rd.map bv)
  wr : Own w 5 1 v.w e.wr.length (e.wr.map bv)
  fr : Own w 3 1 v.f e.fr.length (e.fr.map iv)
theorem EvOwn.at_ {w : World} {e : Ev} {v : Vs} (h : EvOwn w e v) (ok : EvI e) : EvAt w e v := ⟨h.rd.sl, h.wr.sl, ⟨h.fr.sl, ok.fr⟩, ok⟩
theorem EvOwn.ext {w w' : World} {e : Ev} {v : Vs} (h : EvOwn w e v) (x : Ext w w') : EvOwn w' e v := ⟨h.rd.ext x, h.wr.ext x, h.fr.ext x⟩
def EvFp (v : Vs) (k : Nat) : Prop := v.r.ownBlock = some k ∨ v.w.ownBlock = some k ∨ v.f.ownBlock = some k
theorem EvOwn.mod {F : Nat → Prop} {w w' : World} {e : Ev} {v : Vs} (h : EvOwn w e v) (m : Mod F w w') (hF : ∀ k, EvFp v k → ¬ F k) : EvOwn w' e v :=
  ⟨h.rd.mod m fun k hk => hF k (.inl hk), h.wr.mod m fun k hk => hF k (.inr (.inl hk)), h.fr.mod m fun k hk => hF k (.inr (.inr hk))⟩
theorem EvOwn.lt {w : World} {e : Ev} {v : Vs} (h : EvOwn w e v) {k : Nat} (hk : EvFp v k) : k < w.heap.size := by
  rcases hk with h1 | h1 | h1
  · exact h.rd.lt h1
  · exact h.wr.lt h1
  · exact h.fr.lt h1
/-- Rows of bytes or ints are apart from blocks of another type. -/
theorem EvOwn.apart {w : World} {e : Ev} {v : Vs} (h : EvOwn w e v) {k : Nat} {cs : Array Value} {t : TypeId} (hb : w.heap[k]? = some (.cells cs t (0, 0))) (h1 : 5 ≠ t) (h2 : 3 ≠ t) : ¬ EvFp v k := fun hk => by
  rcases hk with h3 | h3 | h3
  · exact h.rd.apart_obj hb h1 h3
  · exact h.wr.apart_obj hb h1 h3
  · exact h.fr.apart_obj hb h2 h3
structure CopyMid (e : Ev) (g : Nat) (w0 wx : World) : Prop where
  ex : ∃ la1 lc1 la2 lc2 la3 lc3, wx.heap[g]? = some (.cells (evArr e ⟨.slice la1 e.rd.length lc1, .slice la2 e.wr.length lc2, .slice la3 e.fr.length lc3⟩) 54 (0, 0)) ∧
    EvOwn wx e ⟨.slice la1 e.rd.length lc1, .slice la2 e.wr.length lc2, .slice la3 e.fr.length lc3⟩ ∧ ∀ k, EvFp ⟨.slice la1 e.rd.length lc1, .slice la2 e.wr.length lc2, .slice la3 e.fr.length lc3⟩ k → w0.heap.size ≤ k
  md : Mod (fun q => q = g) w0 wx
/-- What a copied event is. -/
def CopiedEv (e : Ev) (w : World) (en : Ending) (w' : World) : Prop := ∃ la1 lc1 la2 lc2 la3 lc3, en = .returned (evV e ⟨.slice la1 e.rd.length lc1, .slice la2 e.wr.length lc2, .slice la3 e.fr.length lc3⟩) ∧
  EvOwn w' e ⟨.slice la1 e.rd.length lc1, .slice la2 e.wr.length lc2, .slice la3 e.fr.length lc3⟩ ∧ Ext w w' ∧ ∀ k, EvFp ⟨.slice la1 e.rd.length lc1, .slice la2 e.wr.length lc2, .slice la3 e.fr.length lc3⟩ k → w.heap.size ≤ k

set_option maxRecDepth 100000 in
set_option maxHeartbeats 1600000 in
theorem copied_any (w : World) (e : Ev) (v : Vs) (h : EvAt w e v) (hl : e.rd.length ≤ 1000000 ∧ e.wr.length ≤ 1000000 ∧ e.fr.length ≤ 1000000) :
    Calls Try.prog 87 #[evV e v] w (CopiedEv e w) := by
  obtain ⟨k1, k2, k3, t1, t2, t3⟩ := ev_facts h
  obtain ⟨w0, hw0⟩ : ∃ w0, w0 = (w.alloc (.cells (evArr e v) 54)).alloc (.cells #[.int .i64 0, .int .i64 0, .bool false, .bool false, .int .i64 0, .int .i64 0, .int .i64 0, .slice none 0 0, .slice none 0 0, .slice none 0 0] 54) := ⟨_, rfl⟩
  obtain ⟨g, hg⟩ : ∃ g, g = w.heap.size := ⟨_, rfl⟩
  have x0 : Ext w w0 := by rw [hw0]; exact ((Mod.refl _ _).alloc _).alloc _
  have b0 : w0.heap[g]? = some (.cells (evArr e v) 54 (0, 0)) := by rw [hw0, hg]; exact heap_alloc2_old _ _ _
  have b1 : w0.heap[g + 1]? = some (.cells #[.int .i64 0, .int .i64 0, .bool false, .bool false, .int .i64 0, .int .i64 0, .int .i64 0, .slice none 0 0, .slice none 0 0, .slice none 0 0] 54 (0, 0)) := by rw [hw0, hg]; exact heap_alloc2_new _ _ _
  have key : ∀ w', Ext w0 w' → EvAt w' e v ∧ (w'.cell? ⟨g, 7, none⟩ = some v.r ∧ w'.cell? ⟨g, 8, none⟩ = some v.w ∧ w'.cell? ⟨g, 9, none⟩ = some v.f) ∧ (w'.frozen? ⟨g, 7, none⟩ = false ∧ w'.frozen? ⟨g, 8, none⟩ = false ∧ w'.frozen? ⟨g, 9, none⟩ = false) := fun w' x => by
    have hb := x.blk b0
    exact ⟨h.ext (x0.trans x), by simp [World.cell?, hb], by simp [World.frozen?, hb]⟩
  obtain ⟨-, ⟨c7, c8, c9⟩, -⟩ := key w0 (Mod.refl _ _)
  have KE := Lib.hid key
  have HW := Lib.hid (And.intro hw0 (And.intro hg (And.intro x0 (And.intro b0 (And.intro b1 hl)))))
  clear key hw0 hg x0 b0 b1 h hl
  go_enter Try.func87, Try.ntmps87
  go_upto_region 1 with fail
  rw [← HW.out.1, ← HW.out.2.1]
  clear t1 t2 t3 k1 k2 k3
  refine wp_region_planL [10, 12, 14] [(0, 3), (3, 3), (6, 3), (1, 0), (4, 0), (7, 0), (2, 1), (9, 3), (5, 1), (8, 1), (10, 2), (11, 3), (12, 2), (13, 3), (14, 2)] (fun w' => w'.cell? ⟨g, 7, none⟩ = some v.r ∧ w'.cell? ⟨g, 8, none⟩ = some v.w ∧ w'.cell? ⟨g, 9, none⟩ = some v.f) (by kernel_rfl) (by kernel_rfl) (by kernel_rfl) (fun _ d _ _ _ h => by cases d <;> exact h) ((KE.out _ (Mod.drew (Mod.refl _ _))).2.1) ?_
  simp only [planLL, getO]
  (refine planL_pure (v := ?_) (by rfl) (fun wS => ?_) ?_; rotate_left; (focus (go_simp; (try with_reducible rfl); done)); (try simp only [Act.put, List.setIfInBounds_toArray, List.set_cons_zero, List.set_cons_succ]))
  (refine planL_pure (v := ?_) (by rfl) (fun wS => ?_) ?_; rotate_left; (focus (go_simp; (try with_reducible rfl); done)); (try simp only [Act.put, List.setIfInBounds_toArray, List.set_cons_zero, List.set_cons_succ]))
  (refine planL_pure (v := ?_) (by rfl) (fun wS => ?_) ?_; rotate_left; (focus (go_simp; (try with_reducible rfl); done)); (try simp only [Act.put, List.setIfInBounds_toArray, List.set_cons_zero, List.set_cons_succ]))
  (refine planL_take (v := ?_) (by rfl) (fun wS hS => ?_) ?_; rotate_left; (focus ((try dsimp only at hS); go_simp; (try with_reducible rfl); done)); (try simp only [Act.put, List.setIfInBounds_toArray, List.set_cons_zero, List.set_cons_succ]))
  (refine planL_take (v := ?_) (by rfl) (fun wS hS => ?_) ?_; rotate_left; (focus ((try dsimp only at hS); go_simp; (try with_reducible rfl); done)); (try simp only [Act.put, List.setIfInBounds_toArray, List.set_cons_zero, List.set_cons_succ]))
  (refine planL_take (v := ?_) (by rfl) (fun wS hS => ?_) ?_; rotate_left; (focus ((try dsimp only at hS); go_simp; (try with_reducible rfl); done)); (try simp only [Act.put, List.setIfInBounds_toArray, List.set_cons_zero, List.set_cons_succ]))
  refine planL_call (fun K hK => ?_)
  go_simp
  go_at_call 71; refine (clone_bytes _ v.r e.rd (KE.out _ (Mod.drew (Mod.refl _ _))).1.rd HW.out.2.2.2.2.2.1).mono ?_; rintro en w1 ⟨v1, rfl, o1, y1, f1⟩; rw [List.length_map] at o1; obtain ⟨la1, lc1, hv1, _⟩ := o1.sl.shape; subst hv1; have E1 : Ext w0 w1 := Mod.trans (Mod.drew (Mod.refl _ _)) y1
  refine hK.out _ _ ((KE.out _ E1).2.1) ?_
  clear hK K
  (try simp only [Act.put, List.setIfInBounds_toArray, List.set_cons_zero, List.set_cons_succ])
  (refine planL_pure (v := ?_) (by rfl) (fun wS => ?_) ?_; rotate_left; (focus (go_simp; (try with_reducible rfl); done)); (try simp only [Act.put, List.setIfInBounds_toArray, List.set_cons_zero, List.set_cons_succ]))
  refine planL_call (fun K hK => ?_)
  go_simp
  go_at_call 71; refine (clone_bytes _ v.w e.wr (KE.out _ E1).1.wr HW.out.2.2.2.2.2.2.1).mono ?_; rintro en w2 ⟨v2, rfl, o2, y2, f2⟩; rw [List.length_map] at o2; obtain ⟨la2, lc2, hv2, _⟩ := o2.sl.shape; subst hv2; have E2 : Ext w0 w2 := Mod.trans E1 y2
  refine hK.out _ _ ((KE.out _ E2).2.1) ?_
  clear hK K
  (try simp only [Act.put, List.setIfInBounds_toArray, List.set_cons_zero, List.set_cons_succ])
  refine planL_call (fun K hK => ?_)
  go_simp
  go_at_call 72; refine (clone_ints _ v.f e.fr (KE.out _ E2).1.fr HW.out.2.2.2.2.2.2.2).mono ?_; rintro en w3 ⟨v3, rfl, o3, y3, f3⟩; rw [List.length_map] at o3; obtain ⟨la3, lc3, hv3, _⟩ := o3.sl.shape; subst hv3; have E3 : Ext w0 w3 := Mod.trans E2 y3; obtain ⟨-, ⟨r7, r8, r9⟩, s7, s8, s9⟩ := KE.out w3 E3
  refine hK.out _ _ ((KE.out _ E3).2.1) ?_
  clear hK K
  (try simp only [Act.put, List.setIfInBounds_toArray, List.set_cons_zero, List.set_cons_succ])
  refine planL_late (fun K hK => ?_)
  go_simp
  refine hK.out _ _ ?_
  clear hK K
  (try simp only [Act.put, List.setIfInBounds_toArray, List.set_cons_zero, List.set_cons_succ])
  (refine planL_pure (v := ?_) (by rfl) (fun wS => ?_) ?_; rotate_left; (focus (go_simp; (try with_reducible rfl); done)); (try simp only [Act.put, List.setIfInBounds_toArray, List.set_cons_zero, List.set_cons_succ]))
  refine planL_late (fun K hK => ?_)
  go_simp
  refine hK.out _ _ ?_
  clear hK K
  (try simp only [Act.put, List.setIfInBounds_toArray, List.set_cons_zero, List.set_cons_succ])
  (refine planL_pure (v := ?_) (by rfl) (fun wS => ?_) ?_; rotate_left; (focus (go_simp; (try with_reducible rfl); done)); (try simp only [Act.put, List.setIfInBounds_toArray, List.set_cons_zero, List.set_cons_succ]))
  refine planL_late (fun K hK => ?_)
  go_simp
  refine hK.out _ _ ?_
  clear hK K
  (try simp only [Act.put, List.setIfInBounds_toArray, List.set_cons_zero, List.set_cons_succ])
  refine planL_nil ?_
  obtain ⟨hw0, hg, x0, b0, b1, hl⟩ := HW.out
  have z0 := E3.blk b0
  have z1 := E3.blk b1
  obtain ⟨w4, hw4⟩ : ∃ w4, w4 = ((w3.setCell ⟨g, 7, none⟩ (.slice la1 e.rd.length lc1)).setCell ⟨g, 8, none⟩ (.slice la2 e.wr.length lc2)).setCell ⟨g, 9, none⟩ (.slice la3 e.fr.length lc3) := ⟨_, rfl⟩
  have M4 : Mod (fun q => q = g) w3 w4 := by
    rw [hw4]
    exact Mod.setCell (F := fun q => q = g) (Mod.setCell (F := fun q => q = g) (Mod.setCell (F := fun q => q = g) (Mod.refl _ _) (.inl rfl) _) (.inl rfl) _) (.inl rfl) _
  have y0 : w4.heap[g]? = some (.cells (evArr e ⟨.slice la1 e.rd.length lc1, .slice la2 e.wr.length lc2, .slice la3 e.fr.length lc3⟩) 54 (0, 0)) := by
    rw [hw4]; simp [World.setCell, Array.getElem?_modify, z0]
  have y1 := M4.blk z1 (by omega)
  have hO : EvOwn w3 e ⟨.slice la1 e.rd.length lc1, .slice la2 e.wr.length lc2, .slice la3 e.fr.length lc3⟩ := ⟨(o1.ext y2).ext y3, o2.ext y3, o3⟩
  have hF : ∀ k, EvFp ⟨.slice la1 e.rd.length lc1, .slice la2 e.wr.length lc2, .slice la3 e.fr.length lc3⟩ k → w0.heap.size ≤ k := fun k hk => by
    rcases hk with h | h | h
    · exact f1 k h
    · exact Nat.le_trans E1.size (f2 k h)
    · exact Nat.le_trans E2.size (f3 k h)
  rw [← hw4]
  have a0 : w4.cell? ⟨g, 0, none⟩ = some (.int .i64 e.ag) := by simp [World.cell?, y0]
  have a1 : w4.cell? ⟨g, 1, none⟩ = some (.int .i64 e.kind) := by simp [World.cell?, y0]
  have a2 : w4.cell? ⟨g, 2, none⟩ = some (.bool e.seq) := by simp [World.cell?, y0]
  have a3 : w4.cell? ⟨g, 3, none⟩ = some (.bool e.nt) := by simp [World.cell?, y0]
  have a4 : w4.cell? ⟨g, 4, none⟩ = some (.int .i64 e.blk) := by simp [World.cell?, y0]
  have a5 : w4.cell? ⟨g, 5, none⟩ = some (.int .i64 e.at_) := by simp [World.cell?, y0]
  have a6 : w4.cell? ⟨g, 6, none⟩ = some (.int .i64 e.size) := by simp [World.cell?, y0]
  have a7 : w4.cell? ⟨g, 7, none⟩ = some (.slice la1 e.rd.length lc1) := by simp [World.cell?, y0]
  have a8 : w4.cell? ⟨g, 8, none⟩ = some (.slice la2 e.wr.length lc2) := by simp [World.cell?, y0]
  have a9 : w4.cell? ⟨g, 9, none⟩ = some (.slice la3 e.fr.length lc3) := by simp [World.cell?, y0]
  have d0 : w4.cell? ⟨g + 1, 0, none⟩ = some (.int .i64 0) := by simp [World.cell?, y1]
  have d1 : w4.cell? ⟨g + 1, 1, none⟩ = some (.int .i64 0) := by simp [World.cell?, y1]
  have d2 : w4.cell? ⟨g + 1, 2, none⟩ = some (.bool false) := by simp [World.cell?, y1]
  have d3 : w4.cell? ⟨g + 1, 3, none⟩ = some (.bool false) := by simp [World.cell?, y1]
  have d4 : w4.cell? ⟨g + 1, 4, none⟩ = some (.int .i64 0) := by simp [World.cell?, y1]
  have d5 : w4.cell? ⟨g + 1, 5, none⟩ = some (.int .i64 0) := by simp [World.cell?, y1]
  have d6 : w4.cell? ⟨g + 1, 6, none⟩ = some (.int .i64 0) := by simp [World.cell?, y1]
  have d7 : w4.cell? ⟨g + 1, 7, none⟩ = some (.slice none 0 0) := by simp [World.cell?, y1]
  have d8 : w4.cell? ⟨g + 1, 8, none⟩ = some (.slice none 0 0) := by simp [World.cell?, y1]
  have d9 : w4.cell? ⟨g + 1, 9, none⟩ = some (.slice none 0 0) := by simp [World.cell?, y1]
  have e0 : w4.frozen? ⟨g + 1, 0, none⟩ = false := by simp [World.frozen?, y1]
  have e1 : w4.frozen? ⟨g + 1, 1, none⟩ = false := by simp [World.frozen?, y1]
  have e2 : w4.frozen? ⟨g + 1, 2, none⟩ = false := by simp [World.frozen?, y1]
  have e3 : w4.frozen? ⟨g + 1, 3, none⟩ = false := by simp [World.frozen?, y1]
  have e4 : w4.frozen? ⟨g + 1, 4, none⟩ = false := by simp [World.frozen?, y1]
  have e5 : w4.frozen? ⟨g + 1, 5, none⟩ = false := by simp [World.frozen?, y1]
  have e6 : w4.frozen? ⟨g + 1, 6, none⟩ = false := by simp [World.frozen?, y1]
  have e7 : w4.frozen? ⟨g + 1, 7, none⟩ = false := by simp [World.frozen?, y1]
  have e8 : w4.frozen? ⟨g + 1, 8, none⟩ = false := by simp [World.frozen?, y1]
  have e9 : w4.frozen? ⟨g + 1, 9, none⟩ = false := by simp [World.frozen?, y1]
  have HY := Lib.hid (And.intro hw4 (And.intro M4 (And.intro y1 (And.intro hO (And.intro hF (And.intro z0 (And.intro z1 (And.intro hg x0))))))))
  have HE := Lib.hid E3
  clear hw4 M4 y0 y1 hO hF z0 z1 hg x0 hw0 b0 b1 hl E3 E2 E1 o1 o2 o3 y2 y3 f1 f2 f3 c7 c8 c9 r7 r8 r9 s7 s8 s9
  go_wp2_with fail
  obtain ⟨hw4, M4, y1, hO, hF, z0, z1, hg, x0⟩ := HY.out
  refine bodyPost_ret (results_cell_row rfl _ _ (g + 1) 54 (evArr e ⟨.slice la1 e.rd.length lc1, .slice la2 e.wr.length lc2, .slice la3 e.fr.length lc3⟩) (0, 0) _ rfl (by simp [World.setCell, Array.getElem?_modify, y1]) Try.underlying54 rfl (by kernel_rfl)) rfl ?_
  have M5 : Mod (fun q => q = g + 1) w4 ((((((((((w4.setCell ⟨g + 1, 0, none⟩ (.int .i64 e.ag)).setCell ⟨g + 1, 1, none⟩ (.int .i64 e.kind)).setCell ⟨g + 1, 2, none⟩ (.bool e.seq)).setCell ⟨g + 1, 3, none⟩ (.bool e.nt)).setCell ⟨g + 1, 4, none⟩ (.int .i64 e.blk)).setCell ⟨g + 1, 5, none⟩ (.int .i64 e.at_)).setCell ⟨g + 1, 6, none⟩ (.int .i64 e.size)).setCell ⟨g + 1, 7, none⟩ (.slice la1 e.rd.length lc1)).setCell ⟨g + 1, 8, none⟩ (.slice la2 e.wr.length lc2)).setCell ⟨g + 1, 9, none⟩ (.slice la3 e.fr.length lc3)) :=
    Mod.setCell (F := fun q => q = g + 1) (Mod.setCell (F := fun q => q = g + 1) (Mod.setCell (F := fun q => q = g + 1) (Mod.setCell (F := fun q => q = g + 1) (Mod.setCell (F := fun q => q = g + 1) (Mod.setCell (F := fun q => q = g + 1) (Mod.setCell (F := fun q => q = g + 1) (Mod.setCell (F := fun q => q = g + 1) (Mod.setCell (F := fun q => q = g + 1) (Mod.setCell (F := fun q => q = g + 1) (Mod.refl _ _) (.inl rfl) _) (.inl rfl) _) (.inl rfl) _) (.inl rfl) _) (.inl rfl) _) (.inl rfl) _) (.inl rfl) _) (.inl rfl) _) (.inl rfl) _) (.inl rfl) _
  have M6 : Mod (fun q => q = g ∨ q = g + 1) w3 ((((((((((w4.setCell ⟨g + 1, 0, none⟩ (.int .i64 e.ag)).setCell ⟨g + 1, 1, none⟩ (.int .i64 e.kind)).setCell ⟨g + 1, 2, none⟩ (.bool e.seq)).setCell ⟨g + 1, 3, none⟩ (.bool e.nt)).setCell ⟨g + 1, 4, none⟩ (.int .i64 e.blk)).setCell ⟨g + 1, 5, none⟩ (.int .i64 e.at_)).setCell ⟨g + 1, 6, none⟩ (.int .i64 e.size)).setCell ⟨g + 1, 7, none⟩ (.slice la1 e.rd.length lc1)).setCell ⟨g + 1, 8, none⟩ (.slice la2 e.wr.length lc2)).setCell ⟨g + 1, 9, none⟩ (.slice la3 e.fr.length lc3)) := (M4.weak (fun q h => .inl (.inl h))).trans' M5 (fun q h => .inl (.inr h))
  refine ⟨la1, lc1, la2, lc2, la3, lc3, rfl, hO.mod M6 (fun k hk h => ?_), (x0.trans HE.out).trans' M6 (fun k h => .inr (by omega)), fun k hk => Nat.le_trans x0.size (hF k hk)⟩
  rcases h with rfl | rfl
  · exact hO.apart z0 (by decide) (by decide) hk
  · exact hO.apart z1 (by decide) (by decide) hk
end Go.Proofs.Ytbhocahmhmafmaa
