/-
  The contract of event.fields where it answers false early. No condition.
-/
import Derived.Test.YthmkcgiiakinmaaEvAt
import Derived.Deep.RegionHeld3
import Derived.Deep.RegionLaw
import Derived.BigQuiet
import Derived.Deep.DeepCutAuto
import Derived.Laws.Rows
import Derived.Deep.LoopGhost
import Derived.WalkMore
namespace Go.Proofs.Ythmkcgiiakinmaa
open Go.Ren Go.RowKit
set_option linter.unusedVariables false

/-- An event in a block of its own. -/
abbrev evArr (e : Ev) (v : Vs) : Array Value := #[.int .i64 e.ag, .int .i64 e.kind, .bool e.seq, .bool e.nt, .int .i64 e.blk, .int .i64 e.at_, .int .i64 e.size, v.r, v.w, v.f]
structure EvBox (w : World) (g : Nat) (e : Ev) (v : Vs) : Prop where
  b : w.heap[g]? = some (.cells (evArr e v) 45 (0, 0))
theorem EvBox.ext {w w' : World} {g : Nat} {e : Ev} {v : Vs} (h : EvBox w g e v) (x : Ext w w') : EvBox w' g e v := ⟨x.blk h.b⟩
theorem EvBox.cells {w : World} {g : Nat} {e : Ev} {v : Vs} (h : EvBox w g e v) :
    w.cell? ⟨g, 0, none⟩ = some (.int .i64 e.ag) ∧ w.cell? ⟨g, 1, none⟩ = some (.int .i64 e.kind) ∧ w.cell? ⟨g, 2, none⟩ = some (.bool e.seq) ∧ w.cell? ⟨g, 3, none⟩ = some (.bool e.nt) ∧ w.cell? ⟨g, 4, none⟩ = some (.int .i64 e.blk) ∧
    w.cell? ⟨g, 5, none⟩ = some (.int .i64 e.at_) ∧ w.cell? ⟨g, 6, none⟩ = some (.int .i64 e.size) ∧ w.cell? ⟨g, 7, none⟩ = some v.r ∧ w.cell? ⟨g, 8, none⟩ = some v.w ∧ w.cell? ⟨g, 9, none⟩ = some v.f := by
  simp [World.cell?, h.b]
theorem EvBox.of (w : World) (e : Ev) (v : Vs) : EvBox (w.alloc (.cells (evArr e v) 45)) w.heap.size e v := ⟨heap_alloc_new w _⟩

structure FBox (w w0 : World) (g : Nat) (e : Ev) (v : Vs) : Prop where
  e0 : w0 = w.alloc (.cells (evArr e v) 45)
  eg : g = w.heap.size
  b : EvBox w0 g e v
  x : Ext w w0
theorem FBox.mk' (w : World) (e : Ev) (v : Vs) : ∃ w0 g, FBox w w0 g e v := ⟨_, _, rfl, rfl, EvBox.of w e v, (Mod.refl _ _).alloc _⟩
/-- What a kind is, in the walk's own spelling. -/
structure Kd (e : Ev) (k : Int) : Prop where
  eq : e.kind = k
abbrev FPost (b : Bool) (w : World) (r : Ending) (w' : World) : Prop := r = .returned (.bool b) ∧ Ext w w'

set_option maxRecDepth 100000 in
theorem fields_0 (w : World) (e : Ev) (v : Vs) (h : EvAt w e v) (q0 : e.kind = 0) : Calls Try.prog 65 #[evV e v] w (FPost (evFields e) w) := by
  obtain ⟨k1, k2, k3, t1, t2, t3⟩ := ev_facts h
  have l1 := Sl.run_len (P := Try.prog) h.rd IB.und 3
  have l2 := Sl.run_len (P := Try.prog) h.wr IB.und 3
  have l3 := h.fr.sl.run_len (P := Try.prog) II.und 3
  clear h
  obtain ⟨w0, g, hw⟩ := FBox.mk' w e v
  obtain ⟨c0, c1, c2, c3, c4, c5, c6, c7, c8, c9⟩ := hw.b.cells
  unfold evV
  have hf : evFields e = (!e.seq && !e.nt && decide (e.blk = 0 ∧ e.at_ = 0 ∧ e.size = 0) && e.rd.isEmpty && e.wr.isEmpty && e.fr.isEmpty) := by unfold evFields; rw [if_pos q0]
  rw [hf]
  rw [q0] at c1
  have n1 : ((e.rd.length : Int) == 0) = e.rd.isEmpty := by rw [Bool.eq_iff_iff]; simp
  have n2 : ((e.wr.length : Int) == 0) = e.wr.isEmpty := by rw [Bool.eq_iff_iff]; simp
  have n3 : ((e.fr.length : Int) == 0) = e.fr.isEmpty := by rw [Bool.eq_iff_iff]; simp
  clear hf q0
  go_enter Try.func65, Try.ntmps65
  go_upto_region 1 with fail
  rw [← hw.e0, ← hw.eg]
  clear t1 t2 t3 k1 k2 k3
  go_wp2_with fail
  all_goals
    go_ret
    exact ⟨ret_bool (by simp_all), hw.x⟩

set_option maxRecDepth 100000 in
theorem fields_x (w : World) (e : Ev) (v : Vs) (h : EvAt w e v) (q0 : e.kind ≠ 0) (q1 : e.kind ≠ 1) (q2 : e.kind ≠ 2) (q3 : e.kind ≠ 3 ∨ ¬ (e.seq = true ∧ e.nt = true)) : Calls Try.prog 65 #[evV e v] w (FPost (evFields e) w) := by
  obtain ⟨k1, k2, k3, t1, t2, t3⟩ := ev_facts h
  clear h
  obtain ⟨w0, g, hw⟩ := FBox.mk' w e v
  obtain ⟨c0, c1, c2, c3, c4, c5, c6, c7, c8, c9⟩ := hw.b.cells
  unfold evV
  have hf : evFields e = false := by
    unfold evFields
    rw [if_neg q0]
    rcases q3 with h | h
    · simp [q1, q2, h]
    · by_cases hk : e.kind = 3
      · simp only [Bool.and_eq_false_iff]; left; left; right; simp [hk]; simpa using h
      · simp [q1, q2, hk]
  rw [hf]
  clear hf
  go_enter Try.func65, Try.ntmps65
  go_upto_region 1 with fail
  rw [← hw.e0, ← hw.eg]
  clear t1 t2 t3 k1 k2 k3
  go_upto_region 10 with fail
  all_goals
    first
    | (exfalso; simp_all; done)
    | (go_ret; exact ⟨rfl, hw.x⟩)

/-- A kind with a range: its tests, as the walk spells them. -/
structure Kr (e : Ev) : Prop where
  kd : (e.kind = 1 ∧ rdsB e = true ∧ wrsB e = false) ∨ (e.kind = 2 ∧ rdsB e = false ∧ wrsB e = true) ∨ (e.kind = 3 ∧ rdsB e = true ∧ wrsB e = true ∧ e.seq = true ∧ e.nt = true)
theorem evFields_kr {e : Ev} (h : Kr e) : evFields e = (decide (0 ≤ e.blk ∧ e.blk < 16 ∧ 1 ≤ e.size ∧ e.size ≤ 8 ∧ 0 ≤ e.at_ ∧ e.at_ ≤ 256 - e.size) &&
    decide ((e.rd.length : Int) = (if rdsB e then e.size else 0) ∧ (e.fr.length : Int) = (if rdsB e then e.size else 0) ∧ (e.wr.length : Int) = (if wrsB e then e.size else 0))) := by
  unfold evFields
  rcases h.kd with ⟨q1, r1, r2⟩ | ⟨q1, r1, r2⟩ | ⟨q1, r1, r2, r3, r4⟩
  · rw [if_neg (by omega)]; simp [q1]
  · rw [if_neg (by omega)]; simp [q1]
  · rw [if_neg (by omega)]; simp [q1, r3, r4]

set_option maxRecDepth 100000 in
set_option maxHeartbeats 800000 in
theorem fields_bad (w : World) (e : Ev) (v : Vs) (h : EvAt w e v) (hk : Kr e) (hb : ¬ (0 ≤ e.blk ∧ e.blk < 16 ∧ 1 ≤ e.size ∧ e.size ≤ 8 ∧ 0 ≤ e.at_ ∧ e.at_ ≤ 256 - e.size)) : Calls Try.prog 65 #[evV e v] w (FPost (evFields e) w) := by
  obtain ⟨k1, k2, k3, t1, t2, t3⟩ := ev_facts h
  have hi := h.ok.size
  unfold I64 at hi
  have hI := Lib.hid hi
  have hf : evFields e = false := by rw [evFields_kr hk, Bool.and_eq_false_iff]; left; simpa using hb
  rw [hf]
  clear h hf hi
  obtain ⟨w0, g, hw⟩ := FBox.mk' w e v
  obtain ⟨c0, c1, c2, c3, c4, c5, c6, c7, c8, c9⟩ := hw.b.cells
  have HB := Lib.hid hb
  unfold evV
  rcases hk.kd with ⟨q1, r1, r2⟩ | ⟨q1, r1, r2⟩ | ⟨q1, r1, r2, r3, r4⟩
  case' inl =>
    have n1 : (e.kind == 1) = true := by simpa using q1
    have m1 : (e.kind != 3) = true := by simp [q1]
  case' inr.inl =>
    have n1 : (e.kind == 1) = false := by simp [q1]
    have n1' : ¬ e.kind = 1 := by omega
    have n2 : (e.kind == 2) = true := by simpa using q1
  case' inr.inr =>
    have n1 : (e.kind == 1) = false := by simp [q1]
    have n1' : ¬ e.kind = 1 := by omega
    have n2 : (e.kind == 2) = false := by simp [q1]
    have n2' : ¬ e.kind = 2 := by omega
    have n3 : (e.kind == 3) = true := by simpa using q1
    rw [r3] at c2
    rw [r4] at c3
    clear hk
    clear r3 r4
  all_goals
    have n0 : (e.kind == 0) = false := by simp [q1]
    clear q1 r1 r2 hb
    go_enter Try.func65, Try.ntmps65
    go_upto_region 1 with fail
    rw [← hw.e0, ← hw.eg]
    clear t1 t2 t3 k1 k2 k3
    go_upto_region 13 with fail
  all_goals
    first
    | (exfalso; have h1 := HB.out; have h2 := hI.out; omega)
    | (go_ret; exact ⟨rfl, hw.x⟩)

end Go.Proofs.Ythmkcgiiakinmaa
