/-
  The contracts of the document's small functions of chapter 14, of renlaw14.Event. No condition. The contract of renref14.shape, agents, kinds, ranges that may not be; Syncs. No condition. The contract of renref14.shape, events of kind 1. No condition. The contract of renref14.shape, events of kind 2. No condition. The contract of renref14.shape, events of kind 3. No condition. The contract of renref14.shape, all. No condition.
-/
import Derived.Test.YtbhocahmhmafmaaGreatPEvCopied
import Derived.Test.YtbhocahmhmafmaaGreatPBlkLaw
import Derived.Test.YtbhocahmhmafmaaGreatPPlan
namespace Go.Proofs.YtbhocahmhmafmaaGreat
open Go.Ren Go.RowKit
set_option linter.unusedVariables false
structure REvBox (w : World) (g : Nat) (e : Ev) (v : Vs) : Prop where
 b : w.heap[g]? = some (.cells (evArr e v) 116 (0, 0))
theorem REvBox.cells {w : World} {g : Nat} {e : Ev} {v : Vs} (h : REvBox w g e v) :
 w.cell? ⟨g, 0, none⟩ = some (.int .i64 e.ag) ∧ w.cell? ⟨g, 1, none⟩ = some (.int .i64 e.kind) ∧ w.cell? ⟨g, 2, none⟩ = some (.bool e.seq) ∧ w.cell? ⟨g, 3, none⟩ = some (.bool e.nt) ∧ w.cell? ⟨g, 4, none⟩ = some (.int .i64 e.blk) ∧ w.cell? ⟨g, 5, none⟩ = some (.int .i64 e.at_) ∧ w.cell? ⟨g, 6, none⟩ = some (.int .i64 e.size) ∧ w.cell? ⟨g, 7, none⟩ = some v.r ∧ w.cell? ⟨g, 8, none⟩ = some v.w ∧ w.cell? ⟨g, 9, none⟩ = some v.f := by
 simp [World.cell?, h.b]
def EvPost (e : Ev) (v : Vs) (w : World) (r : Ending) (w' : World) : Prop := r = .returned (evV e v) ∧ Ext w w'
set_option maxRecDepth 100000 in
theorem event_any (w : World) (e : Ev) (v : Vs) (h : EvAt w e v) :
 Calls Tryz.prog 73 #[evV e v] w (EvPost e v w) := by
 obtain ⟨vr, vw, vf⟩ := v
 obtain ⟨a1, c1, h1, -⟩ := h.rd.shape
 obtain ⟨a2, c2, h2, -⟩ := h.wr.shape
 obtain ⟨a3, c3, h3, -⟩ := h.fr.sl.shape
 simp only at h1 h2 h3
 subst h1 h2 h3
 clear h
 obtain ⟨g, hg⟩ : ∃ g, g = w.heap.size := ⟨_, rfl⟩
 obtain ⟨w0, hw0⟩ : ∃ w0, w0 = (w.alloc (.cells (evArr e ⟨.slice a1 e.rd.length c1, .slice a2 e.wr.length c2, .slice a3 e.fr.length c3⟩) 70)).alloc (.cells #[.int .i64 0, .int .i64 0, .bool false, .bool false, .int .i64 0, .int .i64 0, .int .i64 0, .slice none 0 0, .slice none 0 0, .slice none 0 0] 116) := ⟨_, rfl⟩
 have x0 : Ext w w0 := by rw [hw0]; exact ((Mod.refl _ _).alloc _).alloc _
 have b0 : EvBox w0 g e ⟨.slice a1 e.rd.length c1, .slice a2 e.wr.length c2, .slice a3 e.fr.length c3⟩ := ⟨by rw [hw0, hg]; exact heap_alloc2_old _ _ _⟩
 have b1 : w0.heap[g + 1]? = some (.cells #[.int .i64 0, .int .i64 0, .bool false, .bool false, .int .i64 0, .int .i64 0, .int .i64 0, .slice none 0 0, .slice none 0 0, .slice none 0 0] 116 (0, 0)) := by rw [hw0, hg]; exact heap_alloc2_new _ _ _
 have HW := Lib.hid (And.intro hw0 (And.intro hg (And.intro x0 b1)))
 obtain ⟨d0, d1, d2, d3, d4, d5, d6, d7, d8, d9⟩ := b0.cells
 clear hw0 hg x0 b0 b1
 unfold evV
 go_enter Tryz.func73, Tryz.ntmps73
 go_upto_region 1 with fail
 rw [← HW.out.1, ← HW.out.2.1]
 go_wp2_with (refine wpList_store_row rfl 116 (.tmp 2) (.tmp 23) rfl (g + 1) (evArr e ⟨.slice a1 e.rd.length c1, .slice a2 e.wr.length c2, .slice a3 e.fr.length c3⟩) rfl rfl 116 _ HW.out.2.2.2 (by kernel_rfl) rfl (evArr_all rfl rfl rfl) ?_)
 have hb := setRow_heap w0 (g + 1) _ (evArr e ⟨.slice a1 e.rd.length c1, .slice a2 e.wr.length c2, .slice a3 e.fr.length c3⟩) _ _ HW.out.2.2.2
 refine bodyPost_ret (results_cell_row rfl _ _ (g + 1) 116 _ (0, 0) _ rfl hb Tryz.underlying116 rfl (by kernel_rfl)) rfl ?_
 exact ⟨rfl, HW.out.2.2.1.trans' (G := fun k => k = g + 1) ⟨rfl, rfl, rfl, by simp [World.setRow], fun k _ hk => setRow_other w0 (g + 1) k _ hk⟩ (fun i hi => .inr (by have := HW.out.2.1; omega))⟩
end Go.Proofs.YtbhocahmhmafmaaGreat
namespace Go.Ren
end Go.Ren
namespace Go.Proofs.YtbhocahmhmafmaaGreat
open Go.Ren Go.RowKit
set_option linter.unusedVariables false
end Go.Proofs.YtbhocahmhmafmaaGreat
namespace Go.Proofs.YtbhocahmhmafmaaGreat
open Go.Ren Go.RowKit
set_option linter.unusedVariables false
end Go.Proofs.YtbhocahmhmafmaaGreat
namespace Go.Proofs.YtbhocahmhmafmaaGreat
open Go.Ren Go.RowKit
set_option linter.unusedVariables false
end Go.Proofs.YtbhocahmhmafmaaGreat
namespace Go.Proofs.YtbhocahmhmafmaaGreat
open Go.Ren Go.RowKit
set_option linter.unusedVariables false
end Go.Proofs.YtbhocahmhmafmaaGreat
namespace Go.Proofs.YtbhocahmhmafmaaGreat
open Go.Ren Go.RowKit
set_option linter.unusedVariables false
end Go.Proofs.YtbhocahmhmafmaaGreat
