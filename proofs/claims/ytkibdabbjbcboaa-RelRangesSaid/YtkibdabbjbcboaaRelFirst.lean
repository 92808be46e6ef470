/-
  The contracts of renlaw15.three and renlaw15.first: what the chapter's example says. No condition.
-/
import Derived.Test.YtkibdabbjbcboaaRelTool
import Derived.Test.YtkibdabbjbcboaaRelLen
import Derived.Test.YtkibdabbjbcboaaLit
namespace Go.Ren
def threeL : Lg := ⟨[⟨0, 2, false, false, 0, 0, 1, [], [1], []⟩, ⟨0, 2, true, true, 0, 1, 1, [], [2], []⟩, ⟨1, 1, true, true, 0, 1, 1, [2], [], [1]⟩], []⟩
end Go.Ren
namespace Go.Proofs.Ytkibdabbjbcboaa
open Go.Ren Go.RowKit
set_option linter.unusedVariables false

set_option maxRecDepth 100000 in
theorem three_any (w : World) : Calls Try.prog 46 #[] w (LitPost threeL w) := by
  go_enter Try.func46, Try.ntmps46
  go_wp2_with fail
  obtain ⟨g, hg⟩ : ∃ g, g = w.heap.size := ⟨_, rfl⟩
  rw [← hg]
  obtain ⟨W1, hW1⟩ : ∃ W1, W1 = (((((w.alloc (.cells #[.slice (some ⟨g + 1 + 1 + 1 + 1 + 1, 0, none⟩) 3 3, .slice none 0 0] 25)).alloc (.cells #[.int .u8 1] 5)).alloc (.cells #[.int .u8 2] 5)).alloc (.cells #[.int .u8 2] 5)).alloc (.cells #[.int .i64 1] 3)).alloc (.cells #[.int .i64 0, .int .i64 2, .bool false, .bool false, .int .i64 0, .int .i64 0, .int .i64 1, .slice none 0 0, .slice (some ⟨g + 1, 0, none⟩) 1 1, .slice none 0 0, .int .i64 0, .int .i64 2, .bool true, .bool true, .int .i64 0, .int .i64 1, .int .i64 1, .slice none 0 0, .slice (some ⟨g + 1 + 1, 0, none⟩) 1 1, .slice none 0 0, .int .i64 1, .int .i64 1, .bool true, .bool true, .int .i64 0, .int .i64 1, .int .i64 1, .slice (some ⟨g + 1 + 1 + 1, 0, none⟩) 1 1, .slice none 0 0, .slice (some ⟨g + 1 + 1 + 1 + 1, 0, none⟩) 1 1] 46) := ⟨_, rfl⟩
  have x1 : Ext w W1 := by rw [hW1]; exact ((((((Mod.refl _ _).alloc _).alloc _).alloc _).alloc _).alloc _).alloc _
  have h0 : W1.heap[g]? = some (.cells #[.slice (some ⟨g + 1 + 1 + 1 + 1 + 1, 0, none⟩) 3 3, .slice none 0 0] 25 (0, 0)) := by rw [hW1, hg]; simp only [heap_alloc_if, World.size_alloc]; repeat (first | rfl | rw [if_pos (by omega)] | rw [if_neg (by omega)])
  have h1 : W1.heap[g + 1]? = some (.cells #[.int .u8 1] 5 (0, 0)) := by rw [hW1, hg]; simp only [heap_alloc_if, World.size_alloc]; repeat (first | rfl | rw [if_pos (by omega)] | rw [if_neg (by omega)])
  have h2 : W1.heap[g + 1 + 1]? = some (.cells #[.int .u8 2] 5 (0, 0)) := by rw [hW1, hg]; simp only [heap_alloc_if, World.size_alloc]; repeat (first | rfl | rw [if_pos (by omega)] | rw [if_neg (by omega)])
  have h3 : W1.heap[g + 1 + 1 + 1]? = some (.cells #[.int .u8 2] 5 (0, 0)) := by rw [hW1, hg]; simp only [heap_alloc_if, World.size_alloc]; repeat (first | rfl | rw [if_pos (by omega)] | rw [if_neg (by omega)])
  have h4 : W1.heap[g + 1 + 1 + 1 + 1]? = some (.cells #[.int .i64 1] 3 (0, 0)) := by rw [hW1, hg]; simp only [heap_alloc_if, World.size_alloc]; repeat (first | rfl | rw [if_pos (by omega)] | rw [if_neg (by omega)])
  have h5 : W1.heap[g + 1 + 1 + 1 + 1 + 1]? = some (.cells #[.int .i64 0, .int .i64 2, .bool false, .bool false, .int .i64 0, .int .i64 0, .int .i64 1, .slice none 0 0, .slice (some ⟨g + 1, 0, none⟩) 1 1, .slice none 0 0, .int .i64 0, .int .i64 2, .bool true, .bool true, .int .i64 0, .int .i64 1, .int .i64 1, .slice none 0 0, .slice (some ⟨g + 1 + 1, 0, none⟩) 1 1, .slice none 0 0, .int .i64 1, .int .i64 1, .bool true, .bool true, .int .i64 0, .int .i64 1, .int .i64 1, .slice (some ⟨g + 1 + 1 + 1, 0, none⟩) 1 1, .slice none 0 0, .slice (some ⟨g + 1 + 1 + 1 + 1, 0, none⟩) 1 1] 46 (0, 0)) := by rw [hW1, hg]; simp only [heap_alloc_if, World.size_alloc]; repeat (first | rfl | rw [if_pos (by omega)] | rw [if_neg (by omega)])
  rw [← hW1]
  clear hW1
  refine bodyPost_ret (results_cell_row rfl _ _ g 25 #[.slice (some ⟨g + 1 + 1 + 1 + 1 + 1, 0, none⟩) 3 3, .slice none 0 0] (0, 0) _ rfl h0 Try.underlying25 rfl (by kernel_rfl)) rfl ?_
  refine ⟨_, fun i => if i = 0 then ⟨.slice none 0 0, .slice (some ⟨g + 1, 0, none⟩) 1 1, .slice none 0 0⟩ else if i = 1 then ⟨.slice none 0 0, .slice (some ⟨g + 1 + 1, 0, none⟩) 1 1, .slice none 0 0⟩ else ⟨.slice (some ⟨g + 1 + 1 + 1, 0, none⟩) 1 1, .slice none 0 0, .slice (some ⟨g + 1 + 1 + 1 + 1, 0, none⟩) 1 1⟩, rfl, ?_, x1⟩
  refine ⟨built_sl (n := 3) (sz := 10) h5 rfl (by simp [maxLen]), fun i hi => ?_, (Own.nil _ 32 2).sl, fun i hi => absurd hi (Nat.not_lt_zero _)⟩
  match i, hi with
  | 0, _ => exact ⟨litB _, built_sl (n := 1) (sz := 1) h1 rfl (by simp [maxLen]), litI _, ⟨⟨by decide, by decide⟩, ⟨by decide, by decide⟩, ⟨by decide, by decide⟩, ⟨by decide, by decide⟩, ⟨by decide, by decide⟩, lit64 (by decide)⟩⟩
  | 1, _ => exact ⟨litB _, built_sl (n := 1) (sz := 1) h2 rfl (by simp [maxLen]), litI _, ⟨⟨by decide, by decide⟩, ⟨by decide, by decide⟩, ⟨by decide, by decide⟩, ⟨by decide, by decide⟩, ⟨by decide, by decide⟩, lit64 (by decide)⟩⟩
  | 2, _ => exact ⟨built_sl (n := 1) (sz := 1) h3 rfl (by simp [maxLen]), litB _, ⟨built_sl (n := 1) (sz := 1) h4 rfl (by simp [maxLen]), lit64 (by decide)⟩, ⟨⟨by decide, by decide⟩, ⟨by decide, by decide⟩, ⟨by decide, by decide⟩, ⟨by decide, by decide⟩, ⟨by decide, by decide⟩, lit64 (by decide)⟩⟩
theorem first15_any (w : World) : Calls Try.prog 15 #[] w (FPost true w) := by
  go_enter Try.func15, Try.ntmps15
  go_wp2_with fail
  refine (three_any _).mono ?_
  rintro e w1 ⟨ve, V, rfl, hlg, x1⟩
  have HX := Lib.hid x1
  have HG := Lib.hid hlg
  clear hlg x1
  go_wp2_with fail
  refine (rbefore_any _ _ _ V threeL HG.out (by decide)).mono ?_
  rintro e w2 h2
  obtain ⟨g, rv, r, rfl, hlp⟩ := h2.loop
  have HR : Hid (∀ w', Ext w2 w' → RelIs w' (.pointer (some ⟨g, 0, none⟩)) 3 (hbB threeL)) := Lib.hid fun w' x => by
    have := hlp.is.ext x
    rwa [show relN threeL = 3 by decide] at this
  have HY := Lib.hid (hlp.x)
  have x2 : Ext w2 w2 := Mod.refl _ _
  clear h2 hlp
  go_wp2_with fail
  refine (rlen_any _ _ 3 (hbB threeL) (HR.out _ x2)).mono ?_
  rintro e w3 ⟨rfl, rfl⟩
  have x3 : Ext w2 w2 := Mod.refl _ _
  go_wp2_with fail
  refine (has_any _ _ 3 (hbB threeL) (HR.out _ x3) (0) (1)).mono ?_
  rintro e w4 ⟨rfl, y4⟩
  have x4 : Ext w2 w4 := x3.trans y4
  rw [show hasB 3 (hbB threeL) (0) (1) = true by decide]
  go_wp2_with fail
  refine (has_any _ _ 3 (hbB threeL) (HR.out _ x4) (1) (2)).mono ?_
  rintro e w5 ⟨rfl, y5⟩
  have x5 : Ext w2 w5 := x4.trans y5
  rw [show hasB 3 (hbB threeL) (1) (2) = true by decide]
  go_wp2_with fail
  refine (has_any _ _ 3 (hbB threeL) (HR.out _ x5) (0) (2)).mono ?_
  rintro e w6 ⟨rfl, y6⟩
  have x6 : Ext w2 w6 := x5.trans y6
  rw [show hasB 3 (hbB threeL) (0) (2) = true by decide]
  go_wp2_with fail
  refine (has_any _ _ 3 (hbB threeL) (HR.out _ x6) (2) (0)).mono ?_
  rintro e w7 ⟨rfl, y7⟩
  have x7 : Ext w2 w7 := x6.trans y7
  rw [show hasB 3 (hbB threeL) (2) (0) = false by decide]
  go_wp2_with fail
  refine (has_any _ _ 3 (hbB threeL) (HR.out _ x7) (-1) (0)).mono ?_
  rintro e w8 ⟨rfl, y8⟩
  have x8 : Ext w2 w8 := x7.trans y8
  rw [show hasB 3 (hbB threeL) (-1) (0) = false by decide]
  go_wp2_with fail
  refine (rlist_any _ _ 3 (hbB threeL) (HR.out _ x8)).mono ?_
  rintro e w9 ⟨v, rfl, hv, x9, -⟩
  have l9 := hv.sl.run_len (P := Try.prog) IP.und 3
  rw [show (listR 3 (hbB threeL)).length = 3 by decide] at l9
  have X9 := Lib.hid x9
  clear hv x9
  go_wp2_with fail
  go_ret
  exact ⟨rfl, HX.out.trans (HY.out.trans (x8.trans X9.out))⟩
end Go.Proofs.Ytkibdabbjbcboaa
