/-
  What the chapter's examples of the events fix: the examples' function answers true. No condition.
-/
import Derived.Test.YtkibdabbjbcboaaEvTwo
import Derived.Test.YtkibdabbjbcboaaEvLogSame
namespace Go.Proofs.Ytkibdabbjbcboaa
open Go.Ren Go.RowKit
set_option linter.unusedVariables false

theorem small_two : Small twoL := ⟨by decide, by decide, fun i hi => by
  match i, hi with
  | 0, _ => exact ⟨by decide, by decide, by decide⟩
  | 1, _ => exact ⟨by decide, by decide, by decide⟩⟩
set_option maxRecDepth 100000 in
set_option maxHeartbeats 1600000 in
theorem first14_any (w : World) : Calls Try.prog 31 #[] w fun e w' => e = .returned (.bool true) ∧ Ext w w' := by
  have q1 : mayL twoL = true := by decide
  have q2 : evOver two1 two2 = true := by decide
  have q3 : evEq two1 two2 = false := by decide
  have q4 : lgSame twoL twoL = true := lgSame_iff.2 rfl
  have q5 : rdsB two2 = true := by decide
  have q6 : wrsB two1 = true := by decide
  have q8 : (((headL twoL 1).ev.length : Nat) : Int) = 1 := by decide
  have HQ := Lib.hid (And.intro q1 (And.intro q2 (And.intro q3 (And.intro q4 (And.intro q5 (And.intro q6 q8))))))
  clear q1 q2 q3 q4 q5 q6 q8
  go_enter Try.func31, Try.ntmps31
  go_wp2_with fail
  refine (two_any _).mono ?_
  rintro r w0 ⟨ve, V, rfl, h0, x0⟩
  have s1 := Sl.run_st (P := Try.prog) h0.row
  have k1 := Sl.cells_eq h0.row
  go_wp2_with fail
  obtain ⟨w1, hw1⟩ : ∃ w1, w1 = w0.alloc (.cells #[ve, .slice none 0 0] 25) := ⟨_, rfl⟩
  obtain ⟨g, hg⟩ : ∃ g, g = w0.heap.size := ⟨_, rfl⟩
  have x1 : Ext w0 w1 := by rw [hw1]; exact (Mod.refl _ _).alloc _
  have b1 : LogBox w1 g ve (.slice none 0 0) := ⟨by rw [hw1, hg]; exact heap_alloc_new _ _⟩
  rw [← hw1, ← hg]
  have i0 := h0.row.run_idx (P := Try.prog) IEv.und IEv.size .i64 0 (by decide)
  have i1 := h0.row.run_idx (P := Try.prog) IEv.und IEv.size .i64 1 (by decide)
  simp only [Int.natCast_zero, Int.natCast_one, Nat.zero_mul, Nat.one_mul] at i0 i1
  obtain ⟨A0, hA0⟩ : ∃ A, A = at_ ve 0 := ⟨_, rfl⟩
  obtain ⟨A1, hA1⟩ : ∃ A, A = at_ ve 10 := ⟨_, rfl⟩
  obtain ⟨v0, hv0⟩ : ∃ v, v = V 0 := ⟨_, rfl⟩
  obtain ⟨v1, hv1⟩ : ∃ v, v = V 1 := ⟨_, rfl⟩
  rw [← hA0] at i0
  rw [← hA1] at i1
  have KE : Hid (∀ w', Ext w1 w' → (w'.cell? ⟨g, 0, none⟩ = some ve ∧ w'.cell? ⟨g, 1, none⟩ = some (.slice none 0 0) ∧ w'.cell? A0 = some (.int .i64 (two1).ag) ∧ w'.cell? ⟨A0.block, A0.off + 1, none⟩ = some (.int .i64 (two1).kind) ∧ w'.cell? ⟨A0.block, A0.off + 2, none⟩ = some (.bool (two1).seq) ∧ w'.cell? ⟨A0.block, A0.off + 3, none⟩ = some (.bool (two1).nt) ∧ w'.cell? ⟨A0.block, A0.off + 4, none⟩ = some (.int .i64 (two1).blk) ∧ w'.cell? ⟨A0.block, A0.off + 5, none⟩ = some (.int .i64 (two1).at_) ∧ w'.cell? ⟨A0.block, A0.off + 6, none⟩ = some (.int .i64 (two1).size) ∧ w'.cell? ⟨A0.block, A0.off + 7, none⟩ = some v0.r ∧ w'.cell? ⟨A0.block, A0.off + 8, none⟩ = some v0.w ∧ w'.cell? ⟨A0.block, A0.off + 9, none⟩ = some v0.f ∧ w'.cell? A1 = some (.int .i64 (two2).ag) ∧ w'.cell? ⟨A1.block, A1.off + 1, none⟩ = some (.int .i64 (two2).kind) ∧ w'.cell? ⟨A1.block, A1.off + 2, none⟩ = some (.bool (two2).seq) ∧ w'.cell? ⟨A1.block, A1.off + 3, none⟩ = some (.bool (two2).nt) ∧ w'.cell? ⟨A1.block, A1.off + 4, none⟩ = some (.int .i64 (two2).blk) ∧ w'.cell? ⟨A1.block, A1.off + 5, none⟩ = some (.int .i64 (two2).at_) ∧ w'.cell? ⟨A1.block, A1.off + 6, none⟩ = some (.int .i64 (two2).size) ∧ w'.cell? ⟨A1.block, A1.off + 7, none⟩ = some v1.r ∧ w'.cell? ⟨A1.block, A1.off + 8, none⟩ = some v1.w ∧ w'.cell? ⟨A1.block, A1.off + 9, none⟩ = some v1.f) ∧ LogIn w' ve (.slice none 0 0) V twoL ∧ EvAt w' two1 v0 ∧ EvAt w' two2 v1) := Lib.hid fun w' x => by
    have hl := h0.ext (x1.trans x)
    have hb := (b1.ext x).cells
    have c0 := hl.cells (i := 0) (by decide)
    have c1 := hl.cells (i := 1) (by decide)
    simp only [Nat.zero_mul, Nat.one_mul, ← hA0, ← hA1, ← hv0, ← hv1] at c0 c1
    have e0 := hl.ev 0 (by decide)
    have e1 := hl.ev 1 (by decide)
    rw [← hv0] at e0
    rw [← hv1] at e1
    obtain ⟨a0, a1, a2, a3, a4, a5, a6, a7, a8, a9⟩ := c0
    obtain ⟨d0, d1, d2, d3, d4, d5, d6, d7, d8, d9⟩ := c1
    exact ⟨⟨hb.1, hb.2, a0, a1, a2, a3, a4, a5, a6, a7, a8, a9, d0, d1, d2, d3, d4, d5, d6, d7, d8, d9⟩, hl, e0, e1⟩
  have X1 := Lib.hid (x0.trans x1)
  clear hw1 hg x1 b1 hA0 hA1 hv0 hv1 s1 k1 h0 x0
  refine wp_region_plan [(0, true), (1, false), (2, true), (3, true), (4, true), (5, true), (6, true), (7, true), (8, true), (9, true), (10, true), (11, false), (12, true), (13, true), (14, true), (15, true), (16, true), (17, true), (18, true), (19, true), (20, true), (21, true), (22, false), (23, true), (24, true), (25, true), (26, true), (27, false), (28, true), (29, true), (30, true), (31, true), (32, true), (33, true), (34, false), (35, false), (36, true), (37, true), (38, true), (39, true), (40, true), (41, true), (42, false), (43, true), (44, true), (45, true), (46, true), (47, true), (48, true), (49, false), (50, true), (51, true)] (fun w' => w'.cell? ⟨g, 0, none⟩ = some ve ∧ w'.cell? ⟨g, 1, none⟩ = some (.slice none 0 0) ∧ w'.cell? A0 = some (.int .i64 (two1).ag) ∧ w'.cell? ⟨A0.block, A0.off + 1, none⟩ = some (.int .i64 (two1).kind) ∧ w'.cell? ⟨A0.block, A0.off + 2, none⟩ = some (.bool (two1).seq) ∧ w'.cell? ⟨A0.block, A0.off + 3, none⟩ = some (.bool (two1).nt) ∧ w'.cell? ⟨A0.block, A0.off + 4, none⟩ = some (.int .i64 (two1).blk) ∧ w'.cell? ⟨A0.block, A0.off + 5, none⟩ = some (.int .i64 (two1).at_) ∧ w'.cell? ⟨A0.block, A0.off + 6, none⟩ = some (.int .i64 (two1).size) ∧ w'.cell? ⟨A0.block, A0.off + 7, none⟩ = some v0.r ∧ w'.cell? ⟨A0.block, A0.off + 8, none⟩ = some v0.w ∧ w'.cell? ⟨A0.block, A0.off + 9, none⟩ = some v0.f ∧ w'.cell? A1 = some (.int .i64 (two2).ag) ∧ w'.cell? ⟨A1.block, A1.off + 1, none⟩ = some (.int .i64 (two2).kind) ∧ w'.cell? ⟨A1.block, A1.off + 2, none⟩ = some (.bool (two2).seq) ∧ w'.cell? ⟨A1.block, A1.off + 3, none⟩ = some (.bool (two2).nt) ∧ w'.cell? ⟨A1.block, A1.off + 4, none⟩ = some (.int .i64 (two2).blk) ∧ w'.cell? ⟨A1.block, A1.off + 5, none⟩ = some (.int .i64 (two2).at_) ∧ w'.cell? ⟨A1.block, A1.off + 6, none⟩ = some (.int .i64 (two2).size) ∧ w'.cell? ⟨A1.block, A1.off + 7, none⟩ = some v1.r ∧ w'.cell? ⟨A1.block, A1.off + 8, none⟩ = some v1.w ∧ w'.cell? ⟨A1.block, A1.off + 9, none⟩ = some v1.f) (by kernel_rfl) (by kernel_rfl) (by kernel_rfl) (fun _ d _ _ _ h => by cases d <;> exact h) ((KE.out _ (Mod.drew (Mod.refl _ _))).1) ?_
  simp only [planL, getO]
  (refine plan_take (v := ?_) (by rfl) (fun wS hS => ?_) ?_; rotate_left; (focus ((try dsimp only at hS); go_simp; (try with_reducible rfl); done)); (try simp only [Act.put, List.setIfInBounds_toArray, List.set_cons_zero, List.set_cons_succ]))
  refine plan_call (fun K hK => ?_)
  go_simp
  go_at_call 27; refine (may_any _ ve (.slice none 0 0) V twoL (KE.out _ (Mod.drew (Mod.refl _ _))).2.1).mono ?_; rintro r w2 ⟨rfl, y2⟩; have E2 : Ext w1 w2 := Mod.trans (Mod.drew (Mod.refl _ _)) y2; rw [HQ.out.1]
  refine hK.out _ _ ((KE.out _ E2).1) ?_
  clear hK K
  (try simp only [Act.put, List.setIfInBounds_toArray, List.set_cons_zero, List.set_cons_succ])
  iterate 9 (refine plan_take (v := ?_) (by rfl) (fun wS hS => ?_) ?_; rotate_left; (focus ((try dsimp only at hS); go_simp; (try with_reducible rfl); done)); (try simp only [Act.put, List.setIfInBounds_toArray, List.set_cons_zero, List.set_cons_succ]))
  refine plan_call (fun K hK => ?_)
  go_simp
  go_at_call 38; refine (overlap_any _ two1 two2 v0 v1 (KE.out _ E2).2.2.1 (KE.out _ E2).2.2.2).mono ?_; rintro r w3 ⟨rfl, y3⟩; have E3 : Ext w1 w3 := E2.trans y3; rw [HQ.out.2.1]
  refine hK.out _ _ ((KE.out _ E3).1) ?_
  clear hK K
  (try simp only [Act.put, List.setIfInBounds_toArray, List.set_cons_zero, List.set_cons_succ])
  iterate 10 (refine plan_take (v := ?_) (by rfl) (fun wS hS => ?_) ?_; rotate_left; (focus ((try dsimp only at hS); go_simp; (try with_reducible rfl); done)); (try simp only [Act.put, List.setIfInBounds_toArray, List.set_cons_zero, List.set_cons_succ]))
  refine plan_call (fun K hK => ?_)
  go_simp
  go_at_call 30; refine (equal_any _ two1 two2 v0 v1 (KE.out _ E3).2.2.1 (KE.out _ E3).2.2.2).mono ?_; rintro r w4 ⟨rfl, y4⟩; have E4 : Ext w1 w4 := E3.trans y4; rw [HQ.out.2.2.1]
  refine hK.out _ _ ((KE.out _ E4).1) ?_
  clear hK K
  (try simp only [Act.put, List.setIfInBounds_toArray, List.set_cons_zero, List.set_cons_succ])
  iterate 4 (refine plan_take (v := ?_) (by rfl) (fun wS hS => ?_) ?_; rotate_left; (focus ((try dsimp only at hS); go_simp; (try with_reducible rfl); done)); (try simp only [Act.put, List.setIfInBounds_toArray, List.set_cons_zero, List.set_cons_succ]))
  refine plan_call (fun K hK => ?_)
  go_simp
  go_at_call 40; refine (head_any _ ve (.slice none 0 0) V twoL (KE.out _ E4).2.1 1 ⟨by decide, by decide⟩ small_two).mono ?_; rintro r w5 ⟨hv, pv, V5, rfl, o5, y5, -⟩; have E5 : Ext w1 w5 := E4.trans y5; have l5 := o5.row.sl.run_len (P := Try.prog) IEv.und 3; rw [HQ.out.2.2.2.2.2.2] at l5; obtain ⟨lh5, ch5, hh5, _⟩ := o5.row.sl.shape; obtain ⟨lp5, cp5, hp5, _⟩ := o5.prow.sl.shape; subst hh5 hp5; have fl5 : ∀ w' : World, (Instr.field 25 (.agg #[.slice lh5 (headL twoL 1).ev.length ch5, .slice lp5 (headL twoL 1).pr.length cp5]) 0).run Try.prog w' = .ok (.slice lh5 (headL twoL 1).ev.length ch5) w' := fun w' => by kernel_rfl
  refine hK.out _ _ ((KE.out _ E5).1) ?_
  clear hK K
  (try simp only [Act.put, List.setIfInBounds_toArray, List.set_cons_zero, List.set_cons_succ])
  iterate 6 (refine plan_take (v := ?_) (by rfl) (fun wS hS => ?_) ?_; rotate_left; (focus ((try dsimp only at hS); go_simp; (try with_reducible rfl); done)); (try simp only [Act.put, List.setIfInBounds_toArray, List.set_cons_zero, List.set_cons_succ]))
  refine plan_call (fun K hK => ?_)
  go_simp
  go_at_call 55; refine (two_any _).mono ?_; rintro r w6 ⟨ve6, V6, rfl, h6, y6⟩; have E6 : Ext w1 w6 := E5.trans y6
  refine hK.out _ _ ((KE.out _ E6).1) ?_
  clear hK K
  (try simp only [Act.put, List.setIfInBounds_toArray, List.set_cons_zero, List.set_cons_succ])
  refine plan_call (fun K hK => ?_)
  go_simp
  go_at_call 44; refine (lsame_any _ ve (.slice none 0 0) ve6 (.slice none 0 0) V V6 twoL twoL (KE.out _ E6).2.1 h6).mono ?_; rintro r w7 ⟨rfl, y7⟩; have E7 : Ext w1 w7 := E6.trans y7; rw [HQ.out.2.2.2.1]
  refine hK.out _ _ ((KE.out _ E7).1) ?_
  clear hK K
  (try simp only [Act.put, List.setIfInBounds_toArray, List.set_cons_zero, List.set_cons_succ])
  iterate 6 (refine plan_take (v := ?_) (by rfl) (fun wS hS => ?_) ?_; rotate_left; (focus ((try dsimp only at hS); go_simp; (try with_reducible rfl); done)); (try simp only [Act.put, List.setIfInBounds_toArray, List.set_cons_zero, List.set_cons_succ]))
  refine plan_call (fun K hK => ?_)
  go_simp
  go_at_call 33; refine (reads_any _ two2 v1 (KE.out _ E7).2.2.2).mono ?_; rintro r w8 ⟨rfl, y8⟩; have E8 : Ext w1 w8 := E7.trans y8; rw [HQ.out.2.2.2.2.1]
  refine hK.out _ _ ((KE.out _ E8).1) ?_
  clear hK K
  (try simp only [Act.put, List.setIfInBounds_toArray, List.set_cons_zero, List.set_cons_succ])
  iterate 6 (refine plan_take (v := ?_) (by rfl) (fun wS hS => ?_) ?_; rotate_left; (focus ((try dsimp only at hS); go_simp; (try with_reducible rfl); done)); (try simp only [Act.put, List.setIfInBounds_toArray, List.set_cons_zero, List.set_cons_succ]))
  refine plan_call (fun K hK => ?_)
  go_simp
  go_at_call 35; refine (writes_any _ two1 v0 (KE.out _ E8).2.2.1).mono ?_; rintro r w9 ⟨rfl, y9⟩; have E9 : Ext w1 w9 := E8.trans y9; rw [HQ.out.2.2.2.2.2.1]
  refine hK.out _ _ ((KE.out _ E9).1) ?_
  clear hK K
  (try simp only [Act.put, List.setIfInBounds_toArray, List.set_cons_zero, List.set_cons_succ])
  iterate 2 (refine plan_take (v := ?_) (by rfl) (fun wS hS => ?_) ?_; rotate_left; (focus ((try dsimp only at hS); go_simp; (try with_reducible rfl); done)); (try simp only [Act.put, List.setIfInBounds_toArray, List.set_cons_zero, List.set_cons_succ]))
  refine plan_nil ?_
  go_wp2_with fail
  go_ret
  exact ⟨rfl, X1.out.trans E9⟩
end Go.Proofs.Ytkibdabbjbcboaa
