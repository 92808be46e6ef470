/-
  The contracts of renlaw19.plain. No condition.
-/
import Derived.Test.YtnnciakdeoopaaaFifoCopy
import Derived.Test.YtnnciakdeoopaaaEnts
import Derived.Test.YtnnciakdeoopaaaRqList
namespace Go.Proofs.Ytnnciakdeoopaaa
open Go.Ren Go.RowKit
set_option linter.unusedVariables false
set_option maxRecDepth 100000 in
set_option maxHeartbeats 800000 in
theorem plain_any (w : World) (bl a y : Int) (t : Bool) (vb : Value) (b : List UInt8) (hb : BytesAt w vb b) :
    Calls Try.prog 64 #[.agg #[.int .i64 bl, .int .i64 a, vb, .int .i64 y, .bool t]] w fun e w' => e = .returned (.agg #[.int .i64 bl, .int .i64 a, vb, .int .i64 y, .bool t]) ∧ Ext w w' := by
  obtain ⟨la, lc, rfl, _⟩ := hb.shape
  have HBB := Lib.hid hb
  clear hb
  go_enter Try.func64, Try.ntmps64
  go_upto_region 1 with fail
  obtain ⟨g, hg⟩ : ∃ g, g = w.heap.size := ⟨_, rfl⟩
  obtain ⟨w1, hw1⟩ : ∃ w0, w0 = (w.alloc (.cells #[.int .i64 bl, .int .i64 a, .slice la b.length lc, .int .i64 y, .bool t] 65)).alloc (.cells #[.int .i64 0, .int .i64 0, .slice none 0 0, .int .i64 0, .bool false] 110) := ⟨_, rfl⟩
  have x0 : Ext w w1 := by rw [hw1]; exact ((Mod.refl _ _).alloc _).alloc _
  have b0 : w1.heap[g]? = some (.cells #[.int .i64 bl, .int .i64 a, .slice la b.length lc, .int .i64 y, .bool t] 65 (0, 0)) := by rw [hw1, hg]; exact heap_alloc2_old _ _ _
  have b1 : w1.heap[g + 1]? = some (.cells #[.int .i64 0, .int .i64 0, .slice none 0 0, .int .i64 0, .bool false] 110 (0, 0)) := by rw [hw1, hg]; exact heap_alloc2_new _ _ _
  rw [← hw1, ← hg]
  have HG := Lib.hid (And.intro hg (And.intro x0 b1))
  clear hg hw1 x0
  have c0 : w1.cell? ⟨g, 0, none⟩ = some (.int .i64 bl) := by simp [World.cell?, b0]
  have c1 : w1.cell? ⟨g, 1, none⟩ = some (.int .i64 a) := by simp [World.cell?, b0]
  have c2 : w1.cell? ⟨g, 2, none⟩ = some (.slice la b.length lc) := by simp [World.cell?, b0]
  have c3 : w1.cell? ⟨g, 3, none⟩ = some (.int .i64 y) := by simp [World.cell?, b0]
  have c4 : w1.cell? ⟨g, 4, none⟩ = some (.bool t) := by simp [World.cell?, b0]
  have d0 : w1.cell? ⟨g + 1, 0, none⟩ = some (.int .i64 0) := by simp [World.cell?, b1]
  have d1 : w1.cell? ⟨g + 1, 1, none⟩ = some (.int .i64 0) := by simp [World.cell?, b1]
  have d2 : w1.cell? ⟨g + 1, 2, none⟩ = some (.slice none 0 0) := by simp [World.cell?, b1]
  have d3 : w1.cell? ⟨g + 1, 3, none⟩ = some (.int .i64 0) := by simp [World.cell?, b1]
  have d4 : w1.cell? ⟨g + 1, 4, none⟩ = some (.bool false) := by simp [World.cell?, b1]
  have e0 : w1.frozen? ⟨g + 1, 0, none⟩ = false := by simp [World.frozen?, b1]
  have e1 : w1.frozen? ⟨g + 1, 1, none⟩ = false := by simp [World.frozen?, b1]
  have e2 : w1.frozen? ⟨g + 1, 2, none⟩ = false := by simp [World.frozen?, b1]
  have e3 : w1.frozen? ⟨g + 1, 3, none⟩ = false := by simp [World.frozen?, b1]
  have e4 : w1.frozen? ⟨g + 1, 4, none⟩ = false := by simp [World.frozen?, b1]
  clear b0 b1
  go_wp2_with fail
  have b1 := HG.out.2.2
  refine bodyPost_ret (results_cell_row rfl _ _ (g + 1) 110 #[.int .i64 bl, .int .i64 a, .slice la b.length lc, .int .i64 y, .bool t] (0, 0) _ rfl (by simp [World.setCell, Array.getElem?_modify, b1]) Try.underlying110 rfl (by kernel_rfl)) rfl ?_
  obtain ⟨hg, x0, _⟩ := HG.out
  have M : Mod (fun q => q = g + 1) w1 (((((w1.setCell ⟨g + 1, 0, none⟩ (.int .i64 bl)).setCell ⟨g + 1, 1, none⟩ (.int .i64 a)).setCell ⟨g + 1, 2, none⟩ (.slice la b.length lc)).setCell ⟨g + 1, 3, none⟩ (.int .i64 y)).setCell ⟨g + 1, 4, none⟩ (.bool t)) :=
    Mod.setCell (F := fun q => q = g + 1) (Mod.setCell (F := fun q => q = g + 1) (Mod.setCell (F := fun q => q = g + 1) (Mod.setCell (F := fun q => q = g + 1) (Mod.setCell (F := fun q => q = g + 1) (Mod.refl _ _) (.inl rfl) _) (.inl rfl) _) (.inl rfl) _) (.inl rfl) _) (.inl rfl) _
  exact ⟨rfl, x0.trans' M (fun k h => .inr (by omega))⟩
end Go.Proofs.Ytnnciakdeoopaaa
