/-
  The contract of renlaw14.two: the examples' log. No condition.
-/
import Derived.Test.YtkibdabbjbcboaaEvMay
import Derived.Test.YtkibdabbjbcboaaEvFew
namespace Go.Ren
def two1 : Ev := ⟨0, 2, false, false, 0, 0, 2, [], [7, 8], []⟩
def two2 : Ev := ⟨1, 1, false, false, 0, 1, 1, [8], [], [0]⟩
def twoL : Lg := ⟨[two1, two2], []⟩
end Go.Ren
namespace Go.Proofs.Ytkibdabbjbcboaa
open Go.Ren Go.RowKit
set_option linter.unusedVariables false

theorem i64_of' {l : List Int} (h : l.all (fun x => decide (-9223372036854775808 ≤ x) && decide (x ≤ 9223372036854775807)) = true) : ∀ x ∈ l, I64 x := by
  intro x hx
  have := List.all_eq_true.1 h x hx
  simp at this; exact this
def TwoPost (w : World) (e : Ending) (w' : World) : Prop := ∃ ve V, e = .returned (.agg #[ve, .slice none 0 0]) ∧ LogIn w' ve (.slice none 0 0) V twoL ∧ Ext w w'
set_option maxRecDepth 100000 in
theorem two_any (w : World) : Calls Try.prog 55 #[] w (TwoPost w) := by
  go_enter Try.func55, Try.ntmps55
  go_wp2_with fail
  obtain ⟨g, hg⟩ : ∃ g, g = w.heap.size := ⟨_, rfl⟩
  rw [← hg]
  obtain ⟨W1, hW1⟩ : ∃ W1, W1 = ((((w.alloc (.cells #[.slice (some ⟨g + 1 + 1 + 1 + 1, 0, none⟩) 2 2, .slice none 0 0] 25)).alloc (.cells #[.int .u8 7, .int .u8 8] 5)).alloc (.cells #[.int .u8 8] 5)).alloc (.cells #[.int .i64 0] 3)).alloc (.cells #[.int .i64 0, .int .i64 2, .bool false, .bool false, .int .i64 0, .int .i64 0, .int .i64 2, .slice none 0 0, .slice (some ⟨g + 1, 0, none⟩) 2 2, .slice none 0 0, .int .i64 1, .int .i64 1, .bool false, .bool false, .int .i64 0, .int .i64 1, .int .i64 1, .slice (some ⟨g + 1 + 1, 0, none⟩) 1 1, .slice none 0 0, .slice (some ⟨g + 1 + 1 + 1, 0, none⟩) 1 1] 46) := ⟨_, rfl⟩
  have x1 : Ext w W1 := by rw [hW1]; exact (((((Mod.refl _ _).alloc _).alloc _).alloc _).alloc _).alloc _
  have h0 : W1.heap[g]? = some (.cells #[.slice (some ⟨g + 1 + 1 + 1 + 1, 0, none⟩) 2 2, .slice none 0 0] 25 (0, 0)) := by rw [hW1, hg]; simp only [heap_alloc_if, World.size_alloc]; repeat (first | rfl | rw [if_pos (by omega)] | rw [if_neg (by omega)])
  have h1 : W1.heap[g + 1]? = some (.cells #[.int .u8 7, .int .u8 8] 5 (0, 0)) := by rw [hW1, hg]; simp only [heap_alloc_if, World.size_alloc]; repeat (first | rfl | rw [if_pos (by omega)] | rw [if_neg (by omega)])
  have h2 : W1.heap[g + 1 + 1]? = some (.cells #[.int .u8 8] 5 (0, 0)) := by rw [hW1, hg]; simp only [heap_alloc_if, World.size_alloc]; repeat (first | rfl | rw [if_pos (by omega)] | rw [if_neg (by omega)])
  have h3 : W1.heap[g + 1 + 1 + 1]? = some (.cells #[.int .i64 0] 3 (0, 0)) := by rw [hW1, hg]; simp only [heap_alloc_if, World.size_alloc]; repeat (first | rfl | rw [if_pos (by omega)] | rw [if_neg (by omega)])
  have h4 : W1.heap[g + 1 + 1 + 1 + 1]? = some (.cells #[.int .i64 0, .int .i64 2, .bool false, .bool false, .int .i64 0, .int .i64 0, .int .i64 2, .slice none 0 0, .slice (some ⟨g + 1, 0, none⟩) 2 2, .slice none 0 0, .int .i64 1, .int .i64 1, .bool false, .bool false, .int .i64 0, .int .i64 1, .int .i64 1, .slice (some ⟨g + 1 + 1, 0, none⟩) 1 1, .slice none 0 0, .slice (some ⟨g + 1 + 1 + 1, 0, none⟩) 1 1] 46 (0, 0)) := by rw [hW1, hg]; simp only [heap_alloc_if, World.size_alloc]; repeat (first | rfl | rw [if_pos (by omega)] | rw [if_neg (by omega)])
  rw [← hW1]
  clear hW1
  refine bodyPost_ret (results_cell_row rfl _ _ g 25 #[.slice (some ⟨g + 1 + 1 + 1 + 1, 0, none⟩) 2 2, .slice none 0 0] (0, 0) _ rfl h0 Try.underlying25 rfl (by kernel_rfl)) rfl ?_
  refine ⟨_, fun i => if i = 0 then ⟨.slice none 0 0, .slice (some ⟨g + 1, 0, none⟩) 2 2, .slice none 0 0⟩ else ⟨.slice (some ⟨g + 1 + 1, 0, none⟩) 1 1, .slice none 0 0, .slice (some ⟨g + 1 + 1 + 1, 0, none⟩) 1 1⟩, rfl, ?_, x1⟩
  have nb : ∀ W : World, BytesAt W (.slice none 0 0) [] := fun W => (Own.nil W 5 1).sl
  have ni : ∀ W : World, IntsAt W (.slice none 0 0) [] := fun W => ⟨(Own.nil W 3 1).sl, fun x hx => by cases hx⟩
  refine ⟨built_sl (n := 2) (sz := 10) h4 rfl (by simp [maxLen]), fun i hi => ?_, (Own.nil _ 32 2).sl, fun i hi => absurd hi (Nat.not_lt_zero _)⟩
  match i, hi with
  | 0, _ => exact ⟨nb _, built_sl (n := 2) (sz := 1) h1 rfl (by simp [maxLen]), ni _, ⟨⟨by decide, by decide⟩, ⟨by decide, by decide⟩, ⟨by decide, by decide⟩, ⟨by decide, by decide⟩, ⟨by decide, by decide⟩, fun x hx => by cases hx⟩⟩
  | 1, _ => exact ⟨built_sl (n := 1) (sz := 1) h2 rfl (by simp [maxLen]), nb _, ⟨built_sl (n := 1) (sz := 1) h3 rfl (by simp [maxLen]), i64_of' (by decide)⟩, ⟨⟨by decide, by decide⟩, ⟨by decide, by decide⟩, ⟨by decide, by decide⟩, ⟨by decide, by decide⟩, ⟨by decide, by decide⟩, i64_of' (by decide)⟩⟩
end Go.Proofs.Ytkibdabbjbcboaa
