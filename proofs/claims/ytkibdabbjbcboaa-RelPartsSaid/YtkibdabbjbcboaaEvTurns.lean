/-
  EventTurns: the walk of renlaw14.EventTurns. No condition.
-/
import Derived.Test.YtkibdabbjbcboaaEvFirst
import Derived.Test.YtkibdabbjbcboaaEvTurnsLaw
namespace Go.Proofs.Ytkibdabbjbcboaa
open Go.Ren Go.RowKit
set_option linter.unusedVariables false

theorem log2_in {w : World} {a b : Ev} {v u : Vs} (ha : EvAt w a v) (hb : EvAt w b u) {g : Nat} (h : w.heap[g]? = some (.cells #[.int .i64 a.ag, .int .i64 a.kind, .bool a.seq, .bool a.nt, .int .i64 a.blk, .int .i64 a.at_, .int .i64 a.size, v.r, v.w, v.f, .int .i64 b.ag, .int .i64 b.kind, .bool b.seq, .bool b.nt, .int .i64 b.blk, .int .i64 b.at_, .int .i64 b.size, u.r, u.w, u.f] 46 (0, 0))) :
    LogIn w (.slice (some ⟨g, 0, none⟩) 2 2) (.slice none 0 0) (fun i => if i = 0 then v else u) ⟨[a, b], []⟩ := by
  have hs := built_sl (n := 2) (sz := 10) h rfl (by simp [maxLen])
  have e : (flat 10 2 fun i j => evcell (evn [a, b] i) (if i = 0 then v else u) j) = [.int .i64 a.ag, .int .i64 a.kind, .bool a.seq, .bool a.nt, .int .i64 a.blk, .int .i64 a.at_, .int .i64 a.size, v.r, v.w, v.f, .int .i64 b.ag, .int .i64 b.kind, .bool b.seq, .bool b.nt, .int .i64 b.blk, .int .i64 b.at_, .int .i64 b.size, u.r, u.w, u.f] := by
    simp [flat, List.range, List.range.loop, evcell, evn]
  refine ⟨by show Sl w _ 10 2 (flat 10 2 _); rw [e]; exact hs, fun i hi => ?_, (Own.nil _ 32 2).sl, fun i hi => absurd hi (Nat.not_lt_zero _)⟩
  match i, hi with
  | 0, _ => exact ha
  | 1, _ => exact hb

set_option maxRecDepth 100000 in
set_option maxHeartbeats 1600000 in
theorem turns_all (a b : Ev) (v u : Vs) (w : World) (ha : EvAt w a v) (hb : EvAt w b u) :
    Calls Try.prog 10 #[evV a v, evV b u] w (FPost true w) := by
  obtain ⟨k1, k2, k3, t1, t2, t3⟩ := ev_facts ha
  obtain ⟨k4, k5, k6, t4, t5, t6⟩ := ev_facts hb
  obtain ⟨w0, hw0⟩ : ∃ w0, w0 = (w.alloc (.cells (evArr a v) 46)).alloc (.cells (evArr b u) 46) := ⟨_, rfl⟩
  obtain ⟨g, hg⟩ : ∃ g, g = w.heap.size := ⟨_, rfl⟩
  have x0 : Ext w w0 := by rw [hw0]; exact ((Mod.refl _ _).alloc _).alloc _
  have b0 : EvBox w0 g a v := ⟨by rw [hw0, hg]; exact heap_alloc2_old _ _ _⟩
  have b1 : EvBox w0 (g + 1) b u := ⟨by rw [hw0, hg]; exact heap_alloc2_new _ _ _⟩
  have KE : Hid (∀ w', Ext w0 w' → EvBox w' g a v ∧ EvBox w' (g + 1) b u ∧ EvAt w' a v ∧ EvAt w' b u) := Lib.hid fun w' x => ⟨b0.ext x, b1.ext x, ha.ext (x0.trans x), hb.ext (x0.trans x)⟩
  have HW := Lib.hid (And.intro hw0 (And.intro hg x0))
  obtain ⟨O, hO⟩ : ∃ O, O = evOver a b := ⟨_, rfl⟩
  obtain ⟨E, hE⟩ : ∃ E, E = evEq a b := ⟨_, rfl⟩
  have hcase := turns_law a b
  rw [← hO, ← hE] at hcase
  have HC := Lib.hid hcase
  have HN := Lib.hid (And.intro hO (And.intro hE trivial))
  clear hw0 hg x0 b0 b1 ha hb hO hE hcase
  unfold evV
  go_enter Try.func10, Try.ntmps10
  go_upto_region 1 with fail
  rw [← HW.out.1, ← HW.out.2.1]
  clear t1 t2 t3 t4 t5 t6
  go_wp2_with fail
  refine (first14_any _).mono ?_
  rintro e w1 ⟨rfl, x1⟩
  (try clear c0 c1 c2 c3 c4 c5 c6 c7 c8 c9 d0 d1 d2 d3 d4 d5 d6 d7 d8 d9)
  obtain ⟨c0, c1, c2, c3, c4, c5, c6, c7, c8, c9⟩ := (KE.out _ x1).1.cells
  obtain ⟨d0, d1, d2, d3, d4, d5, d6, d7, d8, d9⟩ := (KE.out _ x1).2.1.cells
  obtain ⟨-, -, -, t1, t2, t3⟩ := ev_facts (KE.out w1 x1).2.2.1
  obtain ⟨-, -, -, t4, t5, t6⟩ := ev_facts (KE.out w1 x1).2.2.2
  go_wp2_with fail
  clear t1 t2 t3 t4 t5 t6 k1 k2 k3 k4 k5 k6
  refine (few_any _ _ _ (fun i => if i = 0 then v else u) ⟨[a, b], []⟩ (log2_in ((KE.out w1 x1).2.2.1.ext ((Mod.refl _ _).alloc _)) ((KE.out w1 x1).2.2.2.ext ((Mod.refl _ _).alloc _)) (heap_alloc_new _ _)) 2 (by decide)).mono ?_
  rintro r w2 ⟨⟨r, rfl, -⟩, x2⟩
  have X2 : Ext w0 w2 := Mod.trans (Mod.alloc x1 _) x2
  (try clear c0 c1 c2 c3 c4 c5 c6 c7 c8 c9 d0 d1 d2 d3 d4 d5 d6 d7 d8 d9)
  obtain ⟨c0, c1, c2, c3, c4, c5, c6, c7, c8, c9⟩ := (KE.out _ X2).1.cells
  obtain ⟨d0, d1, d2, d3, d4, d5, d6, d7, d8, d9⟩ := (KE.out _ X2).2.1.cells
  cases r with
  | false =>
    go_wp2_with fail
    refine (first14_any _).mono ?_
    rintro e w3 ⟨rfl, x3⟩
    go_wp2_with fail
    go_ret
    exact ⟨rfl, (HW.out.2.2.trans X2).trans x3⟩
  | true =>
    go_wp2_with fail
    refine wp_region_plan [(0, true), (1, true), (3, true), (4, true), (2, false), (5, false), (6, true), (7, true)] (fun w' => w'.cell? ⟨g, 0, none⟩ = some (.int .i64 (a).ag) ∧ w'.cell? ⟨g, 1, none⟩ = some (.int .i64 (a).kind) ∧ w'.cell? ⟨g, 2, none⟩ = some (.bool (a).seq) ∧ w'.cell? ⟨g, 3, none⟩ = some (.bool (a).nt) ∧ w'.cell? ⟨g, 4, none⟩ = some (.int .i64 (a).blk) ∧ w'.cell? ⟨g, 5, none⟩ = some (.int .i64 (a).at_) ∧ w'.cell? ⟨g, 6, none⟩ = some (.int .i64 (a).size) ∧ w'.cell? ⟨g, 7, none⟩ = some v.r ∧ w'.cell? ⟨g, 8, none⟩ = some v.w ∧ w'.cell? ⟨g, 9, none⟩ = some v.f ∧ w'.cell? ⟨(g + 1), 0, none⟩ = some (.int .i64 (b).ag) ∧ w'.cell? ⟨(g + 1), 1, none⟩ = some (.int .i64 (b).kind) ∧ w'.cell? ⟨(g + 1), 2, none⟩ = some (.bool (b).seq) ∧ w'.cell? ⟨(g + 1), 3, none⟩ = some (.bool (b).nt) ∧ w'.cell? ⟨(g + 1), 4, none⟩ = some (.int .i64 (b).blk) ∧ w'.cell? ⟨(g + 1), 5, none⟩ = some (.int .i64 (b).at_) ∧ w'.cell? ⟨(g + 1), 6, none⟩ = some (.int .i64 (b).size) ∧ w'.cell? ⟨(g + 1), 7, none⟩ = some u.r ∧ w'.cell? ⟨(g + 1), 8, none⟩ = some u.w ∧ w'.cell? ⟨(g + 1), 9, none⟩ = some u.f) (by kernel_rfl) (by kernel_rfl) (by kernel_rfl) (fun _ d _ _ _ h => by cases d <;> exact h) (by obtain ⟨a0, a1, a2, a3, a4, a5, a6, a7, a8, a9⟩ := (KE.out _ (Mod.drew X2)).1.cells; obtain ⟨b0, b1, b2, b3, b4, b5, b6, b7, b8, b9⟩ := (KE.out _ (Mod.drew X2)).2.1.cells; exact ⟨a0, a1, a2, a3, a4, a5, a6, a7, a8, a9, b0, b1, b2, b3, b4, b5, b6, b7, b8, b9⟩) ?_
    simp only [planL, getO]
    iterate 4 (refine plan_take (v := ?_) (by rfl) (fun wS hS => ?_) ?_; rotate_left; (focus ((try dsimp only at hS); go_simp; (try with_reducible rfl); done)); (try simp only [Act.put, List.setIfInBounds_toArray, List.set_cons_zero, List.set_cons_succ]))
    refine plan_call (fun K hK => ?_)
    go_simp
    go_at_call 38; refine (overlap_any _ a b v u (KE.out _ (Mod.drew X2)).2.2.1 (KE.out _ (Mod.drew X2)).2.2.2).mono ?_; rintro r w4 ⟨rfl, y4⟩; have E4 : Ext w0 w4 := Mod.trans (Mod.drew X2) y4; rw [← HN.out.1]
    refine hK.out _ _ (by obtain ⟨a0, a1, a2, a3, a4, a5, a6, a7, a8, a9⟩ := (KE.out _ E4).1.cells; obtain ⟨b0, b1, b2, b3, b4, b5, b6, b7, b8, b9⟩ := (KE.out _ E4).2.1.cells; exact ⟨a0, a1, a2, a3, a4, a5, a6, a7, a8, a9, b0, b1, b2, b3, b4, b5, b6, b7, b8, b9⟩) ?_
    clear hK K
    (try simp only [Act.put, List.setIfInBounds_toArray, List.set_cons_zero, List.set_cons_succ])
    refine plan_call (fun K hK => ?_)
    go_simp
    go_at_call 30; refine (equal_any _ a b v u (KE.out _ E4).2.2.1 (KE.out _ E4).2.2.2).mono ?_; rintro r w5 ⟨rfl, y5⟩; have E5 : Ext w0 w5 := E4.trans y5; rw [← HN.out.2.1]
    refine hK.out _ _ (by obtain ⟨a0, a1, a2, a3, a4, a5, a6, a7, a8, a9⟩ := (KE.out _ E5).1.cells; obtain ⟨b0, b1, b2, b3, b4, b5, b6, b7, b8, b9⟩ := (KE.out _ E5).2.1.cells; exact ⟨a0, a1, a2, a3, a4, a5, a6, a7, a8, a9, b0, b1, b2, b3, b4, b5, b6, b7, b8, b9⟩) ?_
    clear hK K
    (try simp only [Act.put, List.setIfInBounds_toArray, List.set_cons_zero, List.set_cons_succ])
    iterate 2 (refine plan_take (v := ?_) (by rfl) (fun wS hS => ?_) ?_; rotate_left; (focus ((try dsimp only at hS); go_simp; (try with_reducible rfl); done)); (try simp only [Act.put, List.setIfInBounds_toArray, List.set_cons_zero, List.set_cons_succ]))
    refine plan_nil ?_
    (try clear c0 c1 c2 c3 c4 c5 c6 c7 c8 c9 d0 d1 d2 d3 d4 d5 d6 d7 d8 d9)
    obtain ⟨c0, c1, c2, c3, c4, c5, c6, c7, c8, c9⟩ := (KE.out _ E5).1.cells
    obtain ⟨d0, d1, d2, d3, d4, d5, d6, d7, d8, d9⟩ := (KE.out _ E5).2.1.cells
    rcases HC.out with ⟨z0, z1, z2, z3, z4⟩ | ⟨z0, z1, z2, z4⟩ | ⟨z0, z2, z3, z1, z4⟩ | ⟨z0, z2, z4⟩ | ⟨z0, z2, z4, z5, z6⟩
    case inl =>
      have e1 : (a.blk != b.blk) = false := by simpa using z3
      have e2 : (a.kind != 0) = true := by simpa using z4
      clear z3 z4
      subst z0 z2
      go_wp2_with fail
      refine (overlap_any _ b a u v (KE.out _ E5).2.2.2 (KE.out _ E5).2.2.1).mono ?_
      rintro r w6 ⟨rfl, y6⟩
      rw [evOver_comm, ← HN.out.1]
      have E6 : Ext w0 w6 := E5.trans y6
      (try clear c0 c1 c2 c3 c4 c5 c6 c7 c8 c9 d0 d1 d2 d3 d4 d5 d6 d7 d8 d9)
      obtain ⟨c0, c1, c2, c3, c4, c5, c6, c7, c8, c9⟩ := (KE.out _ E6).1.cells
      obtain ⟨d0, d1, d2, d3, d4, d5, d6, d7, d8, d9⟩ := (KE.out _ E6).2.1.cells
      go_wp2_with fail
      refine (equal_any _ b a u v (KE.out _ E6).2.2.2 (KE.out _ E6).2.2.1).mono ?_
      rintro r w7 ⟨rfl, y7⟩
      rw [evEq_comm, ← HN.out.2.1]
      have E7 : Ext w0 w7 := E6.trans y7
      (try clear c0 c1 c2 c3 c4 c5 c6 c7 c8 c9 d0 d1 d2 d3 d4 d5 d6 d7 d8 d9)
      obtain ⟨c0, c1, c2, c3, c4, c5, c6, c7, c8, c9⟩ := (KE.out _ E7).1.cells
      obtain ⟨d0, d1, d2, d3, d4, d5, d6, d7, d8, d9⟩ := (KE.out _ E7).2.1.cells
      go_wp2_with fail
      refine (first14_any _).mono ?_
      rintro r w8 ⟨rfl, y8⟩
      have E8 : Ext w0 w8 := E7.trans y8
      (try clear c0 c1 c2 c3 c4 c5 c6 c7 c8 c9 d0 d1 d2 d3 d4 d5 d6 d7 d8 d9)
      obtain ⟨c0, c1, c2, c3, c4, c5, c6, c7, c8, c9⟩ := (KE.out _ E8).1.cells
      obtain ⟨d0, d1, d2, d3, d4, d5, d6, d7, d8, d9⟩ := (KE.out _ E8).2.1.cells
      go_wp2_with fail
      go_ret
      exact ⟨rfl, HW.out.2.2.trans E8⟩
    case inr.inl =>
      have e2 : (a.kind != 0) = true := by simpa using z4
      clear z4
      subst z0 z2
      go_wp2_with fail
      refine (overlap_any _ b a u v (KE.out _ E5).2.2.2 (KE.out _ E5).2.2.1).mono ?_
      rintro r w6 ⟨rfl, y6⟩
      rw [evOver_comm, ← HN.out.1]
      have E6 : Ext w0 w6 := E5.trans y6
      (try clear c0 c1 c2 c3 c4 c5 c6 c7 c8 c9 d0 d1 d2 d3 d4 d5 d6 d7 d8 d9)
      obtain ⟨c0, c1, c2, c3, c4, c5, c6, c7, c8, c9⟩ := (KE.out _ E6).1.cells
      obtain ⟨d0, d1, d2, d3, d4, d5, d6, d7, d8, d9⟩ := (KE.out _ E6).2.1.cells
      go_wp2_with fail
      refine (equal_any _ b a u v (KE.out _ E6).2.2.2 (KE.out _ E6).2.2.1).mono ?_
      rintro r w7 ⟨rfl, y7⟩
      rw [evEq_comm, ← HN.out.2.1]
      have E7 : Ext w0 w7 := E6.trans y7
      (try clear c0 c1 c2 c3 c4 c5 c6 c7 c8 c9 d0 d1 d2 d3 d4 d5 d6 d7 d8 d9)
      obtain ⟨c0, c1, c2, c3, c4, c5, c6, c7, c8, c9⟩ := (KE.out _ E7).1.cells
      obtain ⟨d0, d1, d2, d3, d4, d5, d6, d7, d8, d9⟩ := (KE.out _ E7).2.1.cells
      go_wp2_with fail
      refine (first14_any _).mono ?_
      rintro r w8 ⟨rfl, y8⟩
      have E8 : Ext w0 w8 := E7.trans y8
      (try clear c0 c1 c2 c3 c4 c5 c6 c7 c8 c9 d0 d1 d2 d3 d4 d5 d6 d7 d8 d9)
      obtain ⟨c0, c1, c2, c3, c4, c5, c6, c7, c8, c9⟩ := (KE.out _ E8).1.cells
      obtain ⟨d0, d1, d2, d3, d4, d5, d6, d7, d8, d9⟩ := (KE.out _ E8).2.1.cells
      go_wp2_with fail
      go_ret
      exact ⟨rfl, HW.out.2.2.trans E8⟩
    case inr.inr.inl =>
      have e1 : (a.blk != b.blk) = false := by simpa using z3
      have e2 : (a.kind != 0) = true := by simpa using z4
      clear z3 z4
      subst z0 z2
      go_wp2_with fail
      refine (overlap_any _ b a u v (KE.out _ E5).2.2.2 (KE.out _ E5).2.2.1).mono ?_
      rintro r w6 ⟨rfl, y6⟩
      rw [evOver_comm, ← HN.out.1]
      have E6 : Ext w0 w6 := E5.trans y6
      (try clear c0 c1 c2 c3 c4 c5 c6 c7 c8 c9 d0 d1 d2 d3 d4 d5 d6 d7 d8 d9)
      obtain ⟨c0, c1, c2, c3, c4, c5, c6, c7, c8, c9⟩ := (KE.out _ E6).1.cells
      obtain ⟨d0, d1, d2, d3, d4, d5, d6, d7, d8, d9⟩ := (KE.out _ E6).2.1.cells
      go_wp2_with fail
      refine (equal_any _ b a u v (KE.out _ E6).2.2.2 (KE.out _ E6).2.2.1).mono ?_
      rintro r w7 ⟨rfl, y7⟩
      rw [evEq_comm, ← HN.out.2.1]
      have E7 : Ext w0 w7 := E6.trans y7
      (try clear c0 c1 c2 c3 c4 c5 c6 c7 c8 c9 d0 d1 d2 d3 d4 d5 d6 d7 d8 d9)
      obtain ⟨c0, c1, c2, c3, c4, c5, c6, c7, c8, c9⟩ := (KE.out _ E7).1.cells
      obtain ⟨d0, d1, d2, d3, d4, d5, d6, d7, d8, d9⟩ := (KE.out _ E7).2.1.cells
      go_wp2_with fail
      refine (first14_any _).mono ?_
      rintro r w8 ⟨rfl, y8⟩
      have E8 : Ext w0 w8 := E7.trans y8
      (try clear c0 c1 c2 c3 c4 c5 c6 c7 c8 c9 d0 d1 d2 d3 d4 d5 d6 d7 d8 d9)
      obtain ⟨c0, c1, c2, c3, c4, c5, c6, c7, c8, c9⟩ := (KE.out _ E8).1.cells
      obtain ⟨d0, d1, d2, d3, d4, d5, d6, d7, d8, d9⟩ := (KE.out _ E8).2.1.cells
      go_wp2_with fail
      go_ret
      exact ⟨rfl, HW.out.2.2.trans E8⟩
    case inr.inr.inr.inl =>
      have e2 : (a.kind != 0) = true := by simpa using z4
      clear z4
      subst z0 z2
      go_wp2_with fail
      refine (overlap_any _ b a u v (KE.out _ E5).2.2.2 (KE.out _ E5).2.2.1).mono ?_
      rintro r w6 ⟨rfl, y6⟩
      rw [evOver_comm, ← HN.out.1]
      have E6 : Ext w0 w6 := E5.trans y6
      (try clear c0 c1 c2 c3 c4 c5 c6 c7 c8 c9 d0 d1 d2 d3 d4 d5 d6 d7 d8 d9)
      obtain ⟨c0, c1, c2, c3, c4, c5, c6, c7, c8, c9⟩ := (KE.out _ E6).1.cells
      obtain ⟨d0, d1, d2, d3, d4, d5, d6, d7, d8, d9⟩ := (KE.out _ E6).2.1.cells
      go_wp2_with fail
      refine (equal_any _ b a u v (KE.out _ E6).2.2.2 (KE.out _ E6).2.2.1).mono ?_
      rintro r w7 ⟨rfl, y7⟩
      rw [evEq_comm, ← HN.out.2.1]
      have E7 : Ext w0 w7 := E6.trans y7
      (try clear c0 c1 c2 c3 c4 c5 c6 c7 c8 c9 d0 d1 d2 d3 d4 d5 d6 d7 d8 d9)
      obtain ⟨c0, c1, c2, c3, c4, c5, c6, c7, c8, c9⟩ := (KE.out _ E7).1.cells
      obtain ⟨d0, d1, d2, d3, d4, d5, d6, d7, d8, d9⟩ := (KE.out _ E7).2.1.cells
      go_wp2_with fail
      refine (first14_any _).mono ?_
      rintro r w8 ⟨rfl, y8⟩
      have E8 : Ext w0 w8 := E7.trans y8
      (try clear c0 c1 c2 c3 c4 c5 c6 c7 c8 c9 d0 d1 d2 d3 d4 d5 d6 d7 d8 d9)
      obtain ⟨c0, c1, c2, c3, c4, c5, c6, c7, c8, c9⟩ := (KE.out _ E8).1.cells
      obtain ⟨d0, d1, d2, d3, d4, d5, d6, d7, d8, d9⟩ := (KE.out _ E8).2.1.cells
      go_wp2_with fail
      go_ret
      exact ⟨rfl, HW.out.2.2.trans E8⟩
    case inr.inr.inr.inr =>
      have e2 : (a.kind != 0) = false := by simpa using z4
      have HR := Lib.hid (And.intro z5 z6)
      clear z4 z5 z6
      subst z0 z2
      go_wp2_with fail
      refine (overlap_any _ b a u v (KE.out _ E5).2.2.2 (KE.out _ E5).2.2.1).mono ?_
      rintro r w6 ⟨rfl, y6⟩
      rw [evOver_comm, ← HN.out.1]
      have E6 : Ext w0 w6 := E5.trans y6
      (try clear c0 c1 c2 c3 c4 c5 c6 c7 c8 c9 d0 d1 d2 d3 d4 d5 d6 d7 d8 d9)
      obtain ⟨c0, c1, c2, c3, c4, c5, c6, c7, c8, c9⟩ := (KE.out _ E6).1.cells
      obtain ⟨d0, d1, d2, d3, d4, d5, d6, d7, d8, d9⟩ := (KE.out _ E6).2.1.cells
      go_wp2_with fail
      refine (equal_any _ b a u v (KE.out _ E6).2.2.2 (KE.out _ E6).2.2.1).mono ?_
      rintro r w7 ⟨rfl, y7⟩
      rw [evEq_comm, ← HN.out.2.1]
      have E7 : Ext w0 w7 := E6.trans y7
      (try clear c0 c1 c2 c3 c4 c5 c6 c7 c8 c9 d0 d1 d2 d3 d4 d5 d6 d7 d8 d9)
      obtain ⟨c0, c1, c2, c3, c4, c5, c6, c7, c8, c9⟩ := (KE.out _ E7).1.cells
      obtain ⟨d0, d1, d2, d3, d4, d5, d6, d7, d8, d9⟩ := (KE.out _ E7).2.1.cells
      go_wp2_with fail
      refine (first14_any _).mono ?_
      rintro r w8 ⟨rfl, y8⟩
      have E8 : Ext w0 w8 := E7.trans y8
      (try clear c0 c1 c2 c3 c4 c5 c6 c7 c8 c9 d0 d1 d2 d3 d4 d5 d6 d7 d8 d9)
      obtain ⟨c0, c1, c2, c3, c4, c5, c6, c7, c8, c9⟩ := (KE.out _ E8).1.cells
      obtain ⟨d0, d1, d2, d3, d4, d5, d6, d7, d8, d9⟩ := (KE.out _ E8).2.1.cells
      go_wp2_with fail
      refine (reads_any _ a v (KE.out _ E8).2.2.1).mono ?_
      rintro r w9 ⟨rfl, y9⟩
      rw [HR.out.1]
      have E9 : Ext w0 w9 := E8.trans y9
      (try clear c0 c1 c2 c3 c4 c5 c6 c7 c8 c9 d0 d1 d2 d3 d4 d5 d6 d7 d8 d9)
      obtain ⟨c0, c1, c2, c3, c4, c5, c6, c7, c8, c9⟩ := (KE.out _ E9).1.cells
      obtain ⟨d0, d1, d2, d3, d4, d5, d6, d7, d8, d9⟩ := (KE.out _ E9).2.1.cells
      go_wp2_with fail
      refine (writes_any _ a v (KE.out _ E9).2.2.1).mono ?_
      rintro r w10 ⟨rfl, y10⟩
      rw [HR.out.2]
      have E10 : Ext w0 w10 := E9.trans y10
      (try clear c0 c1 c2 c3 c4 c5 c6 c7 c8 c9 d0 d1 d2 d3 d4 d5 d6 d7 d8 d9)
      obtain ⟨c0, c1, c2, c3, c4, c5, c6, c7, c8, c9⟩ := (KE.out _ E10).1.cells
      obtain ⟨d0, d1, d2, d3, d4, d5, d6, d7, d8, d9⟩ := (KE.out _ E10).2.1.cells
      go_wp2_with fail
      go_ret
      exact ⟨rfl, HW.out.2.2.trans E10⟩
end Go.Proofs.Ytkibdabbjbcboaa
