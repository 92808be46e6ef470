/-
  The contract of renlaw16.first. No condition.
-/
import Derived.Test.YthmkcgiiakinmaaModVal
namespace Go.Proofs.Ythmkcgiiakinmaa
open Go.Ren Go.RowKit
set_option linter.unusedVariables false
theorem log3_in {w : World} {a b c : Ev} {v u t : Vs} (ha : EvAt w a v) (hb : EvAt w b u) (hc : EvAt w c t) {g : Nat} (h : w.heap[g]? = some (.cells #[.int .i64 a.ag, .int .i64 a.kind, .bool a.seq, .bool a.nt, .int .i64 a.blk, .int .i64 a.at_, .int .i64 a.size, v.r, v.w, v.f, .int .i64 b.ag, .int .i64 b.kind, .bool b.seq, .bool b.nt, .int .i64 b.blk, .int .i64 b.at_, .int .i64 b.size, u.r, u.w, u.f, .int .i64 c.ag, .int .i64 c.kind, .bool c.seq, .bool c.nt, .int .i64 c.blk, .int .i64 c.at_, .int .i64 c.size, t.r, t.w, t.f] 45 (0, 0))) :
    LogIn w (.slice (some ⟨g, 0, none⟩) 3 3) (.slice none 0 0) (fun i => if i = 0 then v else if i = 1 then u else t) ⟨[a, b, c], []⟩ := by
  have hs := built_sl (n := 3) (sz := 10) h rfl (by simp [maxLen])
  have e : (flat 10 3 fun i j => evcell (evn [a, b, c] i) (if i = 0 then v else if i = 1 then u else t) j) = [.int .i64 a.ag, .int .i64 a.kind, .bool a.seq, .bool a.nt, .int .i64 a.blk, .int .i64 a.at_, .int .i64 a.size, v.r, v.w, v.f, .int .i64 b.ag, .int .i64 b.kind, .bool b.seq, .bool b.nt, .int .i64 b.blk, .int .i64 b.at_, .int .i64 b.size, u.r, u.w, u.f, .int .i64 c.ag, .int .i64 c.kind, .bool c.seq, .bool c.nt, .int .i64 c.blk, .int .i64 c.at_, .int .i64 c.size, t.r, t.w, t.f] := by
    simp [flat, List.range, List.range.loop, evcell, evn]
  refine ⟨by show Sl w _ 10 3 (flat 10 3 _); rw [e]; exact hs, fun i hi => ?_, (Own.nil _ 48 2).sl, fun i hi => absurd hi (Nat.not_lt_zero _)⟩
  match i, hi with
  | 0, _ => exact ha
  | 1, _ => exact hb
  | 2, _ => exact hc
set_option maxRecDepth 100000 in
set_option maxHeartbeats 800000 in
theorem first16_any (w : World) : Calls Try.prog 37 #[] w (FPost true w) := by
  go_enter Try.func37, Try.ntmps37
  go_wp2_with fail
  refine (st16_any _ 0 1 true).mono ?_
  rintro e w1 ⟨g1, rfl, h1, x1⟩
  have H1 := Lib.hid (And.intro h1 x1)
  clear h1 x1
  go_wp2_with fail
  refine (st16_any _ 0 2 true).mono ?_
  rintro e w2 ⟨g2, rfl, h2, x2⟩
  have H2 := Lib.hid (And.intro h2 x2)
  clear h2 x2
  go_wp2_with fail
  refine (ld16_any _ 1 1 0 true).mono ?_
  rintro e w3 ⟨g3, g4, rfl, h3, h4, x3⟩
  have H3 := Lib.hid (And.intro h3 (And.intro h4 x3))
  clear h3 h4 x3
  go_upto_region 2 with fail
  obtain ⟨ga, hga⟩ : ∃ g, g = w3.heap.size := ⟨_, rfl⟩
  rw [← hga]
  obtain ⟨wa, hwa⟩ : ∃ W, W = (w3.alloc (.cells #[.int .i64 0, .int .i64 2, .bool true, .bool true, .int .i64 0, .int .i64 0, .int .i64 1, .slice none 0 0, .slice (some ⟨g1, 0, none⟩) 1 1, .slice none 0 0, .int .i64 0, .int .i64 2, .bool true, .bool true, .int .i64 0, .int .i64 0, .int .i64 1, .slice none 0 0, .slice (some ⟨g2, 0, none⟩) 1 1, .slice none 0 0, .int .i64 1, .int .i64 1, .bool true, .bool true, .int .i64 0, .int .i64 0, .int .i64 1, .slice (some ⟨g3, 0, none⟩) 1 1, .slice none 0 0, .slice (some ⟨g4, 0, none⟩) 1 1] 45)).alloc (.cells #[.slice (some ⟨ga, 0, none⟩) 3 3, .slice none 0 0] 25) := ⟨_, rfl⟩
  have xa : Ext w3 wa := by rw [hwa]; exact ((Mod.refl _ _).alloc _).alloc _
  have ha0 : wa.heap[ga]? = some (.cells #[.int .i64 0, .int .i64 2, .bool true, .bool true, .int .i64 0, .int .i64 0, .int .i64 1, .slice none 0 0, .slice (some ⟨g1, 0, none⟩) 1 1, .slice none 0 0, .int .i64 0, .int .i64 2, .bool true, .bool true, .int .i64 0, .int .i64 0, .int .i64 1, .slice none 0 0, .slice (some ⟨g2, 0, none⟩) 1 1, .slice none 0 0, .int .i64 1, .int .i64 1, .bool true, .bool true, .int .i64 0, .int .i64 0, .int .i64 1, .slice (some ⟨g3, 0, none⟩) 1 1, .slice none 0 0, .slice (some ⟨g4, 0, none⟩) 1 1] 45 (0, 0)) := by rw [hwa, hga]; exact heap_alloc2_old _ _ _
  have ha1 : wa.heap[ga + 1]? = some (.cells #[.slice (some ⟨ga, 0, none⟩) 3 3, .slice none 0 0] 25 (0, 0)) := by rw [hwa, hga]; exact heap_alloc2_new _ _ _
  have LA : LogIn wa (.slice (some ⟨ga, 0, none⟩) 3 3) (.slice none 0 0) (fun i => if i = 0 then stW g1 else if i = 1 then stW g2 else ldW g3 g4) aL16 :=
    log3_in ((st16_at (i64_s 0 rfl) H1.out.1).ext (H2.out.2.trans (H3.out.2.2.trans xa))) ((st16_at (i64_s 0 rfl) H2.out.1).ext (H3.out.2.2.trans xa)) ((ld16_at (i64_s 1 rfl) (i64_s 0 rfl) H3.out.1 H3.out.2.1).ext xa) ha0
  rw [← hwa]
  have HA := Lib.hid (And.intro xa (And.intro ha1 LA))
  clear hwa xa ha0 ha1 LA hga
  go_wp2_with fail
  refine (st16_any _ 0 1 false).mono ?_
  rintro e w4 ⟨g5, rfl, h5, x4⟩
  have H4 := Lib.hid (And.intro h5 x4)
  clear h5 x4
  go_wp2_with fail
  refine (ld16_any _ 0 0 (-1) false).mono ?_
  rintro e w5 ⟨g6, g7, rfl, h6, h7, x5⟩
  have H5 := Lib.hid (And.intro h6 (And.intro h7 x5))
  clear h6 h7 x5
  go_upto_region 3 with fail
  obtain ⟨gb, hgb⟩ : ∃ g, g = w5.heap.size := ⟨_, rfl⟩
  rw [← hgb]
  obtain ⟨wb, hwb⟩ : ∃ W, W = (w5.alloc (.cells #[.int .i64 0, .int .i64 2, .bool false, .bool true, .int .i64 0, .int .i64 0, .int .i64 1, .slice none 0 0, .slice (some ⟨g5, 0, none⟩) 1 1, .slice none 0 0, .int .i64 0, .int .i64 1, .bool false, .bool true, .int .i64 0, .int .i64 0, .int .i64 1, .slice (some ⟨g6, 0, none⟩) 1 1, .slice none 0 0, .slice (some ⟨g7, 0, none⟩) 1 1] 45)).alloc (.cells #[.slice (some ⟨gb, 0, none⟩) 2 2, .slice none 0 0] 25) := ⟨_, rfl⟩
  have xb : Ext w5 wb := by rw [hwb]; exact ((Mod.refl _ _).alloc _).alloc _
  have hb0 : wb.heap[gb]? = some (.cells #[.int .i64 0, .int .i64 2, .bool false, .bool true, .int .i64 0, .int .i64 0, .int .i64 1, .slice none 0 0, .slice (some ⟨g5, 0, none⟩) 1 1, .slice none 0 0, .int .i64 0, .int .i64 1, .bool false, .bool true, .int .i64 0, .int .i64 0, .int .i64 1, .slice (some ⟨g6, 0, none⟩) 1 1, .slice none 0 0, .slice (some ⟨g7, 0, none⟩) 1 1] 45 (0, 0)) := by rw [hwb, hgb]; exact heap_alloc2_old _ _ _
  have hb1 : wb.heap[gb + 1]? = some (.cells #[.slice (some ⟨gb, 0, none⟩) 2 2, .slice none 0 0] 25 (0, 0)) := by rw [hwb, hgb]; exact heap_alloc2_new _ _ _
  have LB : LogIn wb (.slice (some ⟨gb, 0, none⟩) 2 2) (.slice none 0 0) (fun i => if i = 0 then stW g5 else ldW g6 g7) bL16 :=
    log2_in ((st16_at (i64_s 0 rfl) H4.out.1).ext (H5.out.2.2.trans xb)) ((ld16_at (i64_s 0 rfl) (i64_s (-1) rfl) H5.out.1 H5.out.2.1).ext xb) hb0
  have XAB : Ext wa wb := H4.out.2.trans (H5.out.2.2.trans xb)
  have ba : LogBox wb (ga + 1) (.slice (some ⟨ga, 0, none⟩) 3 3) (.slice none 0 0) := ⟨Ext.blk XAB HA.out.2.1⟩
  have bb : LogBox wb (gb + 1) (.slice (some ⟨gb, 0, none⟩) 2 2) (.slice none 0 0) := ⟨hb1⟩
  have LA := HA.out.2.2.ext XAB
  rw [← hwb]
  have KAB := Lib.hid (fun w' (x : Ext wb w') => And.intro (LA.ext x) (And.intro (ba.ext x) (And.intro (LB.ext x) (bb.ext x))))
  have HX : Hid (Ext w wb) := Lib.hid (H1.out.2.trans (H2.out.2.trans (H3.out.2.2.trans (HA.out.1.trans XAB))))
  clear hwb xb hb0 hb1 LB ba bb LA hgb XAB
  refine wp_region_plan [(0, true), (1, true), (2, false), (3, false), (4, true), (5, true), (6, true), (7, false), (8, true), (9, true), (10, true), (11, true), (12, true), (13, false), (14, false), (15, true), (16, true), (17, true), (18, true), (19, false), (20, true), (21, true), (22, true), (23, true), (24, false), (25, true), (26, true), (27, true), (28, true), (29, false), (30, true), (31, true)] (fun w' => w'.cell? ⟨ga + 1, 0, none⟩ = some (.slice (some ⟨ga, 0, none⟩) 3 3) ∧ w'.cell? ⟨ga + 1, 1, none⟩ = some (.slice none 0 0) ∧ w'.cell? ⟨gb + 1, 0, none⟩ = some (.slice (some ⟨gb, 0, none⟩) 2 2) ∧ w'.cell? ⟨gb + 1, 1, none⟩ = some (.slice none 0 0)) (by kernel_rfl) (by kernel_rfl) (by kernel_rfl) (fun _ d _ _ _ h => by cases d <;> exact h) (⟨(KAB.out _ (Mod.drew (Mod.refl _ _))).2.1.cells.1, (KAB.out _ (Mod.drew (Mod.refl _ _))).2.1.cells.2, (KAB.out _ (Mod.drew (Mod.refl _ _))).2.2.2.cells.1, (KAB.out _ (Mod.drew (Mod.refl _ _))).2.2.2.cells.2⟩) ?_
  simp only [planL, getO]
  iterate 2 (refine plan_take (v := ?_) (by rfl) (fun wS hS => ?_) ?_; rotate_left; (focus ((try dsimp only at hS); go_simp; (try with_reducible rfl); done)); (try simp only [Act.put, List.setIfInBounds_toArray, List.set_cons_zero, List.set_cons_succ]))
  refine plan_call (fun K hK => ?_)
  go_simp
  go_at_call 50; refine (natural_any _ (.slice (some ⟨ga, 0, none⟩) 3 3) (.slice none 0 0) _ aL16 (KAB.out _ (Mod.drew (Mod.refl _ _))).1 (by decide)).mono ?_; rintro e v10 ⟨nv10, rfl, n10, y10⟩; have x10 : Ext wb v10 := Mod.trans (Mod.drew (Mod.refl _ _)) y10; have HN10 := Lib.hid n10; clear n10
  refine hK.out _ _ (⟨(KAB.out _ x10).2.1.cells.1, (KAB.out _ x10).2.1.cells.2, (KAB.out _ x10).2.2.2.cells.1, (KAB.out _ x10).2.2.2.cells.2⟩) ?_
  clear hK K
  (try simp only [Act.put, List.setIfInBounds_toArray, List.set_cons_zero, List.set_cons_succ])
  refine plan_call (fun K hK => ?_)
  go_simp
  go_at_call 45; refine (atomic_any _ (.slice (some ⟨ga, 0, none⟩) 3 3) (.slice none 0 0) _ aL16 (KAB.out _ x10).1 (by decide) nv10 _ HN10.out).mono ?_; rintro e v11 ⟨rfl, y11⟩; have x11 : Ext wb v11 := Mod.trans x10 y11; rw [show atoI aL16 (natL aL16) = 2 by decide]
  refine hK.out _ _ (⟨(KAB.out _ x11).2.1.cells.1, (KAB.out _ x11).2.1.cells.2, (KAB.out _ x11).2.2.2.cells.1, (KAB.out _ x11).2.2.2.cells.2⟩) ?_
  clear hK K
  (try simp only [Act.put, List.setIfInBounds_toArray, List.set_cons_zero, List.set_cons_succ])
  iterate 3 (refine plan_take (v := ?_) (by rfl) (fun wS hS => ?_) ?_; rotate_left; (focus ((try dsimp only at hS); go_simp; (try with_reducible rfl); done)); (try simp only [Act.put, List.setIfInBounds_toArray, List.set_cons_zero, List.set_cons_succ]))
  refine plan_call (fun K hK => ?_)
  go_simp
  go_at_call 39; refine (coherent_any _ (.slice (some ⟨ga, 0, none⟩) 3 3) (.slice none 0 0) _ aL16 (KAB.out _ x11).1 (by decide)).mono ?_; rintro e v12 ⟨rfl, y12⟩; have x12 : Ext wb v12 := Mod.trans x11 y12; rw [show cohI aL16 = -1 by decide]
  refine hK.out _ _ (⟨(KAB.out _ x12).2.1.cells.1, (KAB.out _ x12).2.1.cells.2, (KAB.out _ x12).2.2.2.cells.1, (KAB.out _ x12).2.2.2.cells.2⟩) ?_
  clear hK K
  (try simp only [Act.put, List.setIfInBounds_toArray, List.set_cons_zero, List.set_cons_succ])
  iterate 5 (refine plan_take (v := ?_) (by rfl) (fun wS hS => ?_) ?_; rotate_left; (focus ((try dsimp only at hS); go_simp; (try with_reducible rfl); done)); (try simp only [Act.put, List.setIfInBounds_toArray, List.set_cons_zero, List.set_cons_succ]))
  refine plan_call (fun K hK => ?_)
  go_simp
  go_at_call 50; refine (natural_any _ (.slice (some ⟨ga, 0, none⟩) 3 3) (.slice none 0 0) _ aL16 (KAB.out _ x12).1 (by decide)).mono ?_; rintro e v13 ⟨nv13, rfl, n13, y13⟩; have x13 : Ext wb v13 := Mod.trans x12 y13; have HN13 := Lib.hid n13; clear n13
  refine hK.out _ _ (⟨(KAB.out _ x13).2.1.cells.1, (KAB.out _ x13).2.1.cells.2, (KAB.out _ x13).2.2.2.cells.1, (KAB.out _ x13).2.2.2.cells.2⟩) ?_
  clear hK K
  (try simp only [Act.put, List.setIfInBounds_toArray, List.set_cons_zero, List.set_cons_succ])
  refine plan_call (fun K hK => ?_)
  go_simp
  go_at_call 47; refine (valid_any _ (.slice (some ⟨ga, 0, none⟩) 3 3) (.slice none 0 0) _ aL16 (KAB.out _ x13).1 (by decide) nv13 _ HN13.out).mono ?_; rintro e v14 ⟨rfl, y14⟩; have x14 : Ext wb v14 := Mod.trans x13 y14; rw [show valB aL16 (natL aL16) = false by decide]
  refine hK.out _ _ (⟨(KAB.out _ x14).2.1.cells.1, (KAB.out _ x14).2.1.cells.2, (KAB.out _ x14).2.2.2.cells.1, (KAB.out _ x14).2.2.2.cells.2⟩) ?_
  clear hK K
  (try simp only [Act.put, List.setIfInBounds_toArray, List.set_cons_zero, List.set_cons_succ])
  iterate 4 (refine plan_take (v := ?_) (by rfl) (fun wS hS => ?_) ?_; rotate_left; (focus ((try dsimp only at hS); go_simp; (try with_reducible rfl); done)); (try simp only [Act.put, List.setIfInBounds_toArray, List.set_cons_zero, List.set_cons_succ]))
  refine plan_call (fun K hK => ?_)
  go_simp
  go_at_call 39; refine (coherent_any _ (.slice (some ⟨gb, 0, none⟩) 2 2) (.slice none 0 0) _ bL16 (KAB.out _ x14).2.2.1 (by decide)).mono ?_; rintro e v15 ⟨rfl, y15⟩; have x15 : Ext wb v15 := Mod.trans x14 y15; rw [show cohI bL16 = 1 by decide]
  refine hK.out _ _ (⟨(KAB.out _ x15).2.1.cells.1, (KAB.out _ x15).2.1.cells.2, (KAB.out _ x15).2.2.2.cells.1, (KAB.out _ x15).2.2.2.cells.2⟩) ?_
  clear hK K
  (try simp only [Act.put, List.setIfInBounds_toArray, List.set_cons_zero, List.set_cons_succ])
  iterate 4 (refine plan_take (v := ?_) (by rfl) (fun wS hS => ?_) ?_; rotate_left; (focus ((try dsimp only at hS); go_simp; (try with_reducible rfl); done)); (try simp only [Act.put, List.setIfInBounds_toArray, List.set_cons_zero, List.set_cons_succ]))
  refine plan_call (fun K hK => ?_)
  go_simp
  go_at_call 41; refine (tearfree_any _ (.slice (some ⟨gb, 0, none⟩) 2 2) (.slice none 0 0) _ bL16 (KAB.out _ x15).2.2.1 (by decide)).mono ?_; rintro e v16 ⟨rfl, y16⟩; have x16 : Ext wb v16 := Mod.trans x15 y16; rw [show tearI bL16 = -1 by decide]
  refine hK.out _ _ (⟨(KAB.out _ x16).2.1.cells.1, (KAB.out _ x16).2.1.cells.2, (KAB.out _ x16).2.2.2.cells.1, (KAB.out _ x16).2.2.2.cells.2⟩) ?_
  clear hK K
  (try simp only [Act.put, List.setIfInBounds_toArray, List.set_cons_zero, List.set_cons_succ])
  iterate 4 (refine plan_take (v := ?_) (by rfl) (fun wS hS => ?_) ?_; rotate_left; (focus ((try dsimp only at hS); go_simp; (try with_reducible rfl); done)); (try simp only [Act.put, List.setIfInBounds_toArray, List.set_cons_zero, List.set_cons_succ]))
  refine plan_call (fun K hK => ?_)
  go_simp
  go_at_call 47; refine (valid_any _ _ _ _ eL16 (nil_log16 _) (by decide) (.slice none 0 0) [] (litI _)).mono ?_; rintro e v17 ⟨rfl, y17⟩; have x17 : Ext wb v17 := Mod.trans x16 y17; rw [show valB eL16 [] = true by decide]
  refine hK.out _ _ (⟨(KAB.out _ x17).2.1.cells.1, (KAB.out _ x17).2.1.cells.2, (KAB.out _ x17).2.2.2.cells.1, (KAB.out _ x17).2.2.2.cells.2⟩) ?_
  clear hK K
  (try simp only [Act.put, List.setIfInBounds_toArray, List.set_cons_zero, List.set_cons_succ])
  iterate 2 (refine plan_take (v := ?_) (by rfl) (fun wS hS => ?_) ?_; rotate_left; (focus ((try dsimp only at hS); go_simp; (try with_reducible rfl); done)); (try simp only [Act.put, List.setIfInBounds_toArray, List.set_cons_zero, List.set_cons_succ]))
  refine plan_nil ?_
  go_wp2_with fail
  go_ret
  exact ⟨rfl, HX.out.trans x17⟩
end Go.Proofs.Ythmkcgiiakinmaa
