/-
  Two boxes with an event of the document each. No condition.
-/
import Derived.Test.YtkibdabbjbcboaaRvFrom
namespace Go.Proofs.Ytkibdabbjbcboaa
open Go.Ren Go.RowKit
set_option linter.unusedVariables false
/-- Two boxes with an event each. -/
def RTwoEv (w0 : World) (x y : Ev) (u v : Vs) (s1 s2 : Value) (wq : World) : Prop := ∃ g1 g2, s1 = .pointer (some ⟨g1, 0, none⟩) ∧ s2 = .pointer (some ⟨g2, 0, none⟩) ∧ REvBox wq g1 x u ∧ REvBox wq g2 y v ∧ Ext w0 wq
theorem RTwoEv.keep {w0 : World} {x y : Ev} {u v : Vs} {s1 s2 : Value} {wq : World} (h : RTwoEv w0 x y u v s1 s2 wq) (hx : EvAt w0 x u) (hy : EvAt w0 y v) : ∃ b1 b2, s1 = .pointer (some ⟨b1, 0, none⟩) ∧ s2 = .pointer (some ⟨b2, 0, none⟩) ∧ Ext w0 wq ∧
    Hid (∀ w', Ext wq w' → (w'.cell? ⟨b1, 0, none⟩ = some (.int .i64 (x).ag) ∧ w'.cell? ⟨b1, 1, none⟩ = some (.int .i64 (x).kind) ∧ w'.cell? ⟨b1, 2, none⟩ = some (.bool (x).seq) ∧ w'.cell? ⟨b1, 3, none⟩ = some (.bool (x).nt) ∧ w'.cell? ⟨b1, 4, none⟩ = some (.int .i64 (x).blk) ∧ w'.cell? ⟨b1, 5, none⟩ = some (.int .i64 (x).at_) ∧ w'.cell? ⟨b1, 6, none⟩ = some (.int .i64 (x).size) ∧ w'.cell? ⟨b1, 7, none⟩ = some u.r ∧ w'.cell? ⟨b1, 8, none⟩ = some u.w ∧ w'.cell? ⟨b1, 9, none⟩ = some u.f) ∧ (w'.cell? ⟨b2, 0, none⟩ = some (.int .i64 (y).ag) ∧ w'.cell? ⟨b2, 1, none⟩ = some (.int .i64 (y).kind) ∧ w'.cell? ⟨b2, 2, none⟩ = some (.bool (y).seq) ∧ w'.cell? ⟨b2, 3, none⟩ = some (.bool (y).nt) ∧ w'.cell? ⟨b2, 4, none⟩ = some (.int .i64 (y).blk) ∧ w'.cell? ⟨b2, 5, none⟩ = some (.int .i64 (y).at_) ∧ w'.cell? ⟨b2, 6, none⟩ = some (.int .i64 (y).size) ∧ w'.cell? ⟨b2, 7, none⟩ = some v.r ∧ w'.cell? ⟨b2, 8, none⟩ = some v.w ∧ w'.cell? ⟨b2, 9, none⟩ = some v.f) ∧ EvAt w' ⟨x.ag, x.kind, x.seq, x.nt, x.blk, x.at_, x.size, x.rd, x.wr, x.fr⟩ u ∧ EvAt w' ⟨y.ag, y.kind, y.seq, y.nt, y.blk, y.at_, y.size, y.rd, y.wr, y.fr⟩ v) := by
  obtain ⟨b1, b2, e1, e2, h1, h2, h3⟩ := h
  exact ⟨b1, b2, e1, e2, h3, Lib.hid fun w' z => ⟨(h1.ext z).cells, (h2.ext z).cells, hx.ext (h3.trans z), hy.ext (h3.trans z)⟩⟩
end Go.Proofs.Ytkibdabbjbcboaa
