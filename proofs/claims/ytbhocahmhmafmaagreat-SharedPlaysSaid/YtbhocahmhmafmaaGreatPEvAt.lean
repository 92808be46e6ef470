/-
  Events and logs in memory; the contracts of the small functions of package event. No condition. The contract of event.fields where it answers false early. No condition. The contract of event.fields where a range is right. No condition.
-/
import Derived.Test.YtbhocahmhmafmaaGreatPBaseA
import Derived.Test.YtbhocahmhmafmaaGreatPBlkLaw
import Derived.Test.YtbhocahmhmafmaaGreatPFrame
import Derived.Deep.RegionHeld3
import Derived.Deep.RegionLaw
import Derived.BigQuiet
import Derived.Deep.DeepCutAuto
import Derived.Laws.Rows
import Derived.Deep.LoopGhost
import Derived.WalkMore
namespace Go.Proofs.YtbhocahmhmafmaaGreat
open Go.Ren Go.RowKit
set_option linter.unusedVariables false
theorem IEv : EInfo Tryz.prog 45 70 10 120 (.agg #[.int .i64 0, .int .i64 0, .bool false, .bool false, .int .i64 0, .int .i64 0, .int .i64 0, .slice none 0 0, .slice none 0 0, .slice none 0 0]) := ⟨Tryz.underlying45, by kernel_rfl, rfl, by decide⟩
theorem IP : EInfo Tryz.prog 46 112 2 16 (.agg #[.int .i64 0, .int .i64 0]) := ⟨Tryz.underlying46, by kernel_rfl, rfl, by decide⟩
structure Vs where
 r : Value
 w : Value
 f : Value
structure EvAt (w : World) (e : Ev) (v : Vs) : Prop where
 rd : BytesAt w v.r e.rd
 wr : BytesAt w v.w e.wr
 fr : IntsAt w v.f e.fr
 ok : EvI e
theorem EvAt.ext {w w' : World} {e : Ev} {v : Vs} (h : EvAt w e v) (x : Ext w w') : EvAt w' e v := ⟨h.rd.ext x, h.wr.ext x, h.fr.ext x, h.ok⟩
abbrev evV (e : Ev) (v : Vs) : Value := .agg #[.int .i64 e.ag, .int .i64 e.kind, .bool e.seq, .bool e.nt, .int .i64 e.blk, .int .i64 e.at_, .int .i64 e.size, v.r, v.w, v.f]
theorem ev_facts {w : World} {e : Ev} {v : Vs} (h : EvAt w e v) : v.r.cells = #[v.r] ∧ v.w.cells = #[v.w] ∧ v.f.cells = #[v.f] ∧
 (∀ (a : Addr) (m : Mode) (w' : World), (store a v.r m).run Tryz.prog w' = stored Tryz.prog w' a v.r m) ∧ (∀ (a : Addr) (m : Mode) (w' : World), (store a v.w m).run Tryz.prog w' = stored Tryz.prog w' a v.w m) ∧ (∀ (a : Addr) (m : Mode) (w' : World), (store a v.f m).run Tryz.prog w' = stored Tryz.prog w' a v.f m) :=
 ⟨Sl.cells_eq h.rd, Sl.cells_eq h.wr, Sl.cells_eq h.fr.sl, Sl.run_st h.rd, Sl.run_st h.wr, Sl.run_st h.fr.sl⟩
end Go.Proofs.YtbhocahmhmafmaaGreat
namespace Go.Proofs.YtbhocahmhmafmaaGreat
open Go.Ren Go.RowKit
set_option linter.unusedVariables false
abbrev evArr (e : Ev) (v : Vs) : Array Value := #[.int .i64 e.ag, .int .i64 e.kind, .bool e.seq, .bool e.nt, .int .i64 e.blk, .int .i64 e.at_, .int .i64 e.size, v.r, v.w, v.f]
structure EvBox (w : World) (g : Nat) (e : Ev) (v : Vs) : Prop where
 b : w.heap[g]? = some (.cells (evArr e v) 70 (0, 0))
theorem EvBox.cells {w : World} {g : Nat} {e : Ev} {v : Vs} (h : EvBox w g e v) :
 w.cell? ⟨g, 0, none⟩ = some (.int .i64 e.ag) ∧ w.cell? ⟨g, 1, none⟩ = some (.int .i64 e.kind) ∧ w.cell? ⟨g, 2, none⟩ = some (.bool e.seq) ∧ w.cell? ⟨g, 3, none⟩ = some (.bool e.nt) ∧ w.cell? ⟨g, 4, none⟩ = some (.int .i64 e.blk) ∧
 w.cell? ⟨g, 5, none⟩ = some (.int .i64 e.at_) ∧ w.cell? ⟨g, 6, none⟩ = some (.int .i64 e.size) ∧ w.cell? ⟨g, 7, none⟩ = some v.r ∧ w.cell? ⟨g, 8, none⟩ = some v.w ∧ w.cell? ⟨g, 9, none⟩ = some v.f := by
 simp [World.cell?, h.b]
theorem EvBox.of (w : World) (e : Ev) (v : Vs) : EvBox (w.alloc (.cells (evArr e v) 70)) w.heap.size e v := ⟨heap_alloc_new w _⟩
abbrev FPost (b : Bool) (w : World) (r : Ending) (w' : World) : Prop := r = .returned (.bool b) ∧ Ext w w'
end Go.Proofs.YtbhocahmhmafmaaGreat
namespace Go.Proofs.YtbhocahmhmafmaaGreat
open Go.Ren Go.RowKit
set_option linter.unusedVariables false
end Go.Proofs.YtbhocahmhmafmaaGreat
