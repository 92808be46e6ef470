/-
  The contracts of renlaw17.st, renlaw17.first. No condition.
-/
import Derived.Test.YthmkcgiiakinmaaRaceCf
import Derived.Test.YthmkcgiiakinmaaLit
namespace Go.Ren
def stE (a : Int) : Ev := ⟨a, 2, false, false, 0, 0, 1, [], [1], []⟩
def ldE : Ev := ⟨0, 1, false, false, 0, 0, 1, [0], [], [-1]⟩
def aL17 : Lg := ⟨[stE 0, stE 1], []⟩
def bL17 : Lg := ⟨[ldE, stE 1], []⟩
def eL17 : Lg := ⟨[], []⟩
end Go.Ren
namespace Go.Proofs.Ythmkcgiiakinmaa
open Go.Ren Go.RowKit
set_option linter.unusedVariables false
def nilV : Value := .slice none 0 0
def stV (g : Nat) : Vs := ⟨.slice none 0 0, .slice (some ⟨g, 0, none⟩) 1 1, .slice none 0 0⟩
def ldV (g g' : Nat) : Vs := ⟨.slice (some ⟨g, 0, none⟩) 1 1, .slice none 0 0, .slice (some ⟨g', 0, none⟩) 1 1⟩
theorem stE_at {W : World} {a : Int} (ha : I64 a) {g : Nat} (h : W.heap[g]? = some (.cells #[.int .u8 1] 5 (0, 0))) : EvAt W (stE a) (stV g) :=
  ⟨litB _, built_sl (n := 1) (sz := 1) h rfl (by simp [maxLen]), litI _, ⟨ha, i64_s 2 rfl, i64_s 0 rfl, i64_s 0 rfl, i64_s 1 rfl, fun x hx => by cases hx⟩⟩
theorem ldE_at {W : World} {g g' : Nat} (h : W.heap[g]? = some (.cells #[.int .u8 0] 5 (0, 0))) (h' : W.heap[g']? = some (.cells #[.int .i64 (-1)] 3 (0, 0))) : EvAt W ldE (ldV g g') :=
  ⟨built_sl (n := 1) (sz := 1) h rfl (by simp [maxLen]), litB _, ⟨built_sl (n := 1) (sz := 1) h' rfl (by simp [maxLen]), lit64 (by decide)⟩, ⟨⟨by decide, by decide⟩, ⟨by decide, by decide⟩, ⟨by decide, by decide⟩, ⟨by decide, by decide⟩, ⟨by decide, by decide⟩, lit64 (by decide)⟩⟩
theorem nil_log (W : World) : LogIn W (.slice none 0 0) (.slice none 0 0) (fun _ => stV 0) eL17 := ⟨(Own.nil W 45 10).sl, fun i hi => absurd hi (Nat.not_lt_zero _), (Own.nil W 48 2).sl, fun i hi => absurd hi (Nat.not_lt_zero _)⟩
def StPost (a : Int) (w : World) (e : Ending) (w' : World) : Prop := ∃ g, e = .returned (.agg #[.int .i64 a, .int .i64 2, .bool false, .bool false, .int .i64 0, .int .i64 0, .int .i64 1, .slice none 0 0, .slice (some ⟨g, 0, none⟩) 1 1, .slice none 0 0]) ∧ w'.heap[g]? = some (.cells #[.int .u8 1] 5 (0, 0)) ∧ Ext w w'
set_option maxRecDepth 100000 in
theorem st17_any (w : World) (a : Int) : Calls Try.prog 54 #[.int .i64 a] w (StPost a w) := by
  go_enter Try.func54, Try.ntmps54
  go_wp2_with fail
  obtain ⟨g, hg⟩ : ∃ g, g = w.heap.size := ⟨_, rfl⟩
  rw [← hg]
  obtain ⟨W1, hW1⟩ : ∃ W1, W1 = (w.alloc (.cells #[.int .i64 a, .int .i64 2, .bool false, .bool false, .int .i64 0, .int .i64 0, .int .i64 1, .slice none 0 0, .slice (some ⟨g + 1, 0, none⟩) 1 1, .slice none 0 0] 45)).alloc (.cells #[.int .u8 1] 5) := ⟨_, rfl⟩
  have x1 : Ext w W1 := by rw [hW1]; exact ((Mod.refl _ _).alloc _).alloc _
  have h0 : W1.heap[g]? = some (.cells #[.int .i64 a, .int .i64 2, .bool false, .bool false, .int .i64 0, .int .i64 0, .int .i64 1, .slice none 0 0, .slice (some ⟨g + 1, 0, none⟩) 1 1, .slice none 0 0] 45 (0, 0)) := by rw [hW1, hg]; exact heap_alloc2_old _ _ _
  have h1 : W1.heap[g + 1]? = some (.cells #[.int .u8 1] 5 (0, 0)) := by rw [hW1, hg]; exact heap_alloc2_new _ _ _
  rw [← hW1]
  clear hW1
  refine bodyPost_ret (results_cell_row rfl _ _ g 45 #[.int .i64 a, .int .i64 2, .bool false, .bool false, .int .i64 0, .int .i64 0, .int .i64 1, .slice none 0 0, .slice (some ⟨g + 1, 0, none⟩) 1 1, .slice none 0 0] (0, 0) _ rfl h0 Try.underlying45 rfl (by kernel_rfl)) rfl ?_
  exact ⟨g + 1, rfl, h1, x1⟩
set_option maxRecDepth 100000 in
set_option maxHeartbeats 800000 in
theorem first17_any (w : World) : Calls Try.prog 13 #[] w (FPost true w) := by
  go_enter Try.func13, Try.ntmps13
  go_wp2_with fail
  refine (st17_any _ 0).mono ?_
  rintro e w1 ⟨g1, rfl, h1, x1⟩
  have H1 := Lib.hid (And.intro h1 x1)
  clear h1 x1
  go_wp2_with fail
  refine (st17_any _ 1).mono ?_
  rintro e w2 ⟨g2, rfl, h2, x2⟩
  have H2 := Lib.hid (And.intro h2 x2)
  clear h2 x2
  go_upto_region 2 with fail
  obtain ⟨ga, hga⟩ : ∃ g, g = w2.heap.size := ⟨_, rfl⟩
  rw [← hga]
  obtain ⟨wa, hwa⟩ : ∃ W, W = (w2.alloc (.cells #[.int .i64 0, .int .i64 2, .bool false, .bool false, .int .i64 0, .int .i64 0, .int .i64 1, .slice none 0 0, .slice (some ⟨g1, 0, none⟩) 1 1, .slice none 0 0, .int .i64 1, .int .i64 2, .bool false, .bool false, .int .i64 0, .int .i64 0, .int .i64 1, .slice none 0 0, .slice (some ⟨g2, 0, none⟩) 1 1, .slice none 0 0] 45)).alloc (.cells #[.slice (some ⟨ga, 0, none⟩) 2 2, .slice none 0 0] 25) := ⟨_, rfl⟩
  have xa : Ext w2 wa := by rw [hwa]; exact ((Mod.refl _ _).alloc _).alloc _
  have ha0 : wa.heap[ga]? = some (.cells #[.int .i64 0, .int .i64 2, .bool false, .bool false, .int .i64 0, .int .i64 0, .int .i64 1, .slice none 0 0, .slice (some ⟨g1, 0, none⟩) 1 1, .slice none 0 0, .int .i64 1, .int .i64 2, .bool false, .bool false, .int .i64 0, .int .i64 0, .int .i64 1, .slice none 0 0, .slice (some ⟨g2, 0, none⟩) 1 1, .slice none 0 0] 45 (0, 0)) := by rw [hwa, hga]; exact heap_alloc2_old _ _ _
  have ha1 : wa.heap[ga + 1]? = some (.cells #[.slice (some ⟨ga, 0, none⟩) 2 2, .slice none 0 0] 25 (0, 0)) := by rw [hwa, hga]; exact heap_alloc2_new _ _ _
  have LA : LogIn wa (.slice (some ⟨ga, 0, none⟩) 2 2) (.slice none 0 0) (fun i => if i = 0 then stV g1 else stV g2) aL17 :=
    log2_in ((stE_at (a := 0) ⟨by decide, by decide⟩ H1.out.1).ext (H2.out.2.trans xa)) ((stE_at (a := 1) ⟨by decide, by decide⟩ H2.out.1).ext xa) ha0
  rw [← hwa]
  have HA := Lib.hid (And.intro xa (And.intro ha1 LA))
  clear hwa xa ha0 ha1 LA hga
  go_wp2_with fail
  refine (st17_any _ 1).mono ?_
  rintro e w3 ⟨g3, rfl, h3, x3⟩
  obtain ⟨gc, hgc⟩ : ∃ g, g = wa.heap.size := ⟨_, rfl⟩
  rw [← hgc]
  have c3 : w3.heap[gc]? = some (.cells #[.int .u8 0] 5 (0, 0)) := x3.blk (by rw [hgc]; exact heap_alloc2_old _ _ _)
  have c4 : w3.heap[gc + 1]? = some (.cells #[.int .i64 (-1)] 3 (0, 0)) := x3.blk (by rw [hgc]; exact heap_alloc2_new _ _ _)
  have X3 : Ext wa w3 := (((Mod.refl _ _).alloc _).alloc _).trans x3
  have H3 := Lib.hid (And.intro h3 (And.intro c3 (And.intro c4 X3)))
  clear h3 c3 c4 x3 X3 hgc
  go_upto_region 3 with fail
  obtain ⟨gb, hgb⟩ : ∃ g, g = w3.heap.size := ⟨_, rfl⟩
  rw [← hgb]
  obtain ⟨wb, hwb⟩ : ∃ W, W = (w3.alloc (.cells #[.int .i64 0, .int .i64 1, .bool false, .bool false, .int .i64 0, .int .i64 0, .int .i64 1, .slice (some ⟨gc, 0, none⟩) 1 1, .slice none 0 0, .slice (some ⟨gc + 1, 0, none⟩) 1 1, .int .i64 1, .int .i64 2, .bool false, .bool false, .int .i64 0, .int .i64 0, .int .i64 1, .slice none 0 0, .slice (some ⟨g3, 0, none⟩) 1 1, .slice none 0 0] 45)).alloc (.cells #[.slice (some ⟨gb, 0, none⟩) 2 2, .slice none 0 0] 25) := ⟨_, rfl⟩
  have xb : Ext w3 wb := by rw [hwb]; exact ((Mod.refl _ _).alloc _).alloc _
  have hb0 : wb.heap[gb]? = some (.cells #[.int .i64 0, .int .i64 1, .bool false, .bool false, .int .i64 0, .int .i64 0, .int .i64 1, .slice (some ⟨gc, 0, none⟩) 1 1, .slice none 0 0, .slice (some ⟨gc + 1, 0, none⟩) 1 1, .int .i64 1, .int .i64 2, .bool false, .bool false, .int .i64 0, .int .i64 0, .int .i64 1, .slice none 0 0, .slice (some ⟨g3, 0, none⟩) 1 1, .slice none 0 0] 45 (0, 0)) := by rw [hwb, hgb]; exact heap_alloc2_old _ _ _
  have hb1 : wb.heap[gb + 1]? = some (.cells #[.slice (some ⟨gb, 0, none⟩) 2 2, .slice none 0 0] 25 (0, 0)) := by rw [hwb, hgb]; exact heap_alloc2_new _ _ _
  have LB : LogIn wb (.slice (some ⟨gb, 0, none⟩) 2 2) (.slice none 0 0) (fun i => if i = 0 then ldV gc (gc + 1) else stV g3) bL17 :=
    log2_in ((ldE_at H3.out.2.1 H3.out.2.2.1).ext xb) ((stE_at (a := 1) ⟨by decide, by decide⟩ H3.out.1).ext xb) hb0
  have ba : LogBox wb (ga + 1) (.slice (some ⟨ga, 0, none⟩) 2 2) (.slice none 0 0) := ⟨Ext.blk (H3.out.2.2.2.trans xb) HA.out.2.1⟩
  have bb : LogBox wb (gb + 1) (.slice (some ⟨gb, 0, none⟩) 2 2) (.slice none 0 0) := ⟨hb1⟩
  have LA := HA.out.2.2.ext (H3.out.2.2.2.trans xb)
  rw [← hwb]
  have KAB := Lib.hid (fun w' (x : Ext wb w') => And.intro (LA.ext x) (And.intro (ba.ext x) (And.intro (LB.ext x) (bb.ext x))))
  have HX : Hid (Ext w wb) := Lib.hid (H1.out.2.trans (H2.out.2.trans (HA.out.1.trans (H3.out.2.2.2.trans xb))))
  have x4 : Ext wb wb := Mod.refl _ _
  clear hwb xb hb0 hb1 LB ba bb LA hgb
  (try clear c0 c1)
  (try clear d0 d1)
  obtain ⟨c0, c1⟩ := (KAB.out _ x4).2.1.cells
  obtain ⟨d0, d1⟩ := (KAB.out _ x4).2.2.2.cells
  go_wp2_with fail
  refine (conflict_any _ (.slice (some ⟨ga, 0, none⟩) 2 2) (.slice none 0 0) _ aL17 (KAB.out _ x4).1 (by decide) 0 1).mono ?_
  rintro e v5 ⟨rfl, y5⟩
  have x5 : Ext wb v5 := Mod.trans x4 y5
  rw [show cfB aL17 0 1 = true by decide]
  (try clear c0 c1)
  (try clear d0 d1)
  obtain ⟨c0, c1⟩ := (KAB.out _ x5).2.1.cells
  obtain ⟨d0, d1⟩ := (KAB.out _ x5).2.2.2.cells
  go_wp2_with fail
  refine (data_any _ (.slice (some ⟨ga, 0, none⟩) 2 2) (.slice none 0 0) _ aL17 (KAB.out _ x5).1 (by decide) 1 0).mono ?_
  rintro e v6 ⟨rfl, y6⟩
  have x6 : Ext wb v6 := Mod.trans x5 y6
  rw [show dtB aL17 1 0 = true by decide]
  (try clear c0 c1)
  (try clear d0 d1)
  obtain ⟨c0, c1⟩ := (KAB.out _ x6).2.1.cells
  obtain ⟨d0, d1⟩ := (KAB.out _ x6).2.2.2.cells
  go_wp2_with fail
  refine (conflict_any _ (.slice (some ⟨gb, 0, none⟩) 2 2) (.slice none 0 0) _ bL17 (KAB.out _ x6).2.2.1 (by decide) 0 1).mono ?_
  rintro e v7 ⟨rfl, y7⟩
  have x7 : Ext wb v7 := Mod.trans x6 y7
  rw [show cfB bL17 0 1 = true by decide]
  (try clear c0 c1)
  (try clear d0 d1)
  obtain ⟨c0, c1⟩ := (KAB.out _ x7).2.1.cells
  obtain ⟨d0, d1⟩ := (KAB.out _ x7).2.2.2.cells
  go_wp2_with fail
  refine (data_any _ (.slice (some ⟨gb, 0, none⟩) 2 2) (.slice none 0 0) _ bL17 (KAB.out _ x7).2.2.1 (by decide) 0 1).mono ?_
  rintro e v8 ⟨rfl, y8⟩
  have x8 : Ext wb v8 := Mod.trans x7 y8
  rw [show dtB bL17 0 1 = false by decide]
  (try clear c0 c1)
  (try clear d0 d1)
  obtain ⟨c0, c1⟩ := (KAB.out _ x8).2.1.cells
  obtain ⟨d0, d1⟩ := (KAB.out _ x8).2.2.2.cells
  go_wp2_with fail
  refine (rfirst_any _ (.slice (some ⟨ga, 0, none⟩) 2 2) (.slice none 0 0) _ aL17 (KAB.out _ x8).1 (by decide)).mono ?_
  rintro e v9 ⟨rfl, y9⟩
  have x9 : Ext wb v9 := Mod.trans x8 y9
  rw [show frL (cfL aL17) = 2 by decide]
  (try clear c0 c1)
  (try clear d0 d1)
  obtain ⟨c0, c1⟩ := (KAB.out _ x9).2.1.cells
  obtain ⟨d0, d1⟩ := (KAB.out _ x9).2.2.2.cells
  go_wp2_with fail
  refine (rfirst_any _ _ _ _ eL17 (nil_log _) (by decide)).mono ?_
  rintro e v10 ⟨rfl, y10⟩
  have x10 : Ext wb v10 := Mod.trans x9 y10
  rw [show frL (cfL eL17) = -1 by decide]
  go_wp2_with fail
  go_ret
  exact ⟨rfl, HX.out.trans x10⟩
end Go.Proofs.Ythmkcgiiakinmaa
