/-
  Events and logs in memory; the contracts of the small functions of package event. No condition. The contract of event.fields where it answers false early. No condition. The contract of event.fields where a range is right. No condition.
-/
import Derived.Test.YtbhocahmhmafmaaGreatVBaseA
import Derived.Test.YtbhocahmhmafmaaGreatVBlkLaw
import Derived.Test.YtbhocahmhmafmaaGreatVFrame
import Derived.Deep.RegionHeld3
import Derived.Deep.RegionLaw
import Derived.BigQuiet
import Derived.Deep.DeepCutAuto
import Derived.Laws.Rows
import Derived.Deep.LoopGhost
import Derived.WalkMore
namespace Go.Proofs.YtbhocahmhmafmaaGreat
open Go.Ren Go.RowKit
set_option linter.unusedVariables false
theorem IEv : EInfo Tryz.prog 45 70 10 120 (.agg #[.int .i64 0, .int .i64 0, .bool false, .bool false, .int .i64 0, .int .i64 0, .int .i64 0, .slice none 0 0, .slice none 0 0, .slice none 0 0]) := ⟨Tryz.underlying45, by kernel_rfl, rfl, by decide⟩
theorem IP : EInfo Tryz.prog 46 112 2 16 (.agg #[.int .i64 0, .int .i64 0]) := ⟨Tryz.underlying46, by kernel_rfl, rfl, by decide⟩
structure Vs where
 r : Value
 w : Value
 f : Value
structure EvAt (w : World) (e : Ev) (v : Vs) : Prop where
 rd : BytesAt w v.r e.rd
 wr : BytesAt w v.w e.wr
 fr : IntsAt w v.f e.fr
 ok : EvI e
theorem EvAt.ext {w w' : World} {e : Ev} {v : Vs} (h : EvAt w e v) (x : Ext w w') : EvAt w' e v := ⟨h.rd.ext x, h.wr.ext x, h.fr.ext x, h.ok⟩
abbrev evV (e : Ev) (v : Vs) : Value := .agg #[.int .i64 e.ag, .int .i64 e.kind, .bool e.seq, .bool e.nt, .int .i64 e.blk, .int .i64 e.at_, .int .i64 e.size, v.r, v.w, v.f]
theorem ev_facts {w : World} {e : Ev} {v : Vs} (h : EvAt w e v) : v.r.cells = #[v.r] ∧ v.w.cells = #[v.w] ∧ v.f.cells = #[v.f] ∧
 (∀ (a : Addr) (m : Mode) (w' : World), (store a v.r m).run Tryz.prog w' = stored Tryz.prog w' a v.r m) ∧ (∀ (a : Addr) (m : Mode) (w' : World), (store a v.w m).run Tryz.prog w' = stored Tryz.prog w' a v.w m) ∧ (∀ (a : Addr) (m : Mode) (w' : World), (store a v.f m).run Tryz.prog w' = stored Tryz.prog w' a v.f m) :=
 ⟨Sl.cells_eq h.rd, Sl.cells_eq h.wr, Sl.cells_eq h.fr.sl, Sl.run_st h.rd, Sl.run_st h.wr, Sl.run_st h.fr.sl⟩
theorem reads_any (w : World) (e : Ev) (v : Vs) (h : EvAt w e v) :
 Calls Tryz.prog 133 #[evV e v] w fun r w' => r = .returned (.bool (rdsB e)) ∧ Ext w w' := by
 obtain ⟨k1, k2, k3, t1, t2, t3⟩ := ev_facts h
 clear h
 unfold evV
 go_enter Tryz.func133, Tryz.ntmps133
 go_wp2
 all_goals
  go_ret
  exact ⟨ret_bool (by clear k1 k2 k3 t1 t2 t3; rw [Bool.eq_iff_iff]; simp_all [rdsB]), (Mod.refl _ _).alloc _⟩
theorem writes_any (w : World) (e : Ev) (v : Vs) (h : EvAt w e v) :
 Calls Tryz.prog 129 #[evV e v] w fun r w' => r = .returned (.bool (wrsB e)) ∧ Ext w w' := by
 obtain ⟨k1, k2, k3, t1, t2, t3⟩ := ev_facts h
 clear h
 unfold evV
 go_enter Tryz.func129, Tryz.ntmps129
 go_wp2
 all_goals
  go_ret
  exact ⟨ret_bool (by clear k1 k2 k3 t1 t2 t3; rw [Bool.eq_iff_iff]; simp_all [wrsB]), (Mod.refl _ _).alloc _⟩
theorem equal_any (w : World) (a b : Ev) (v u : Vs) (ha : EvAt w a v) (hb : EvAt w b u) :
 Calls Tryz.prog 130 #[evV a v, evV b u] w fun r w' => r = .returned (.bool (evEq a b)) ∧ Ext w w' := by
 obtain ⟨k1, k2, k3, t1, t2, t3⟩ := ev_facts ha
 obtain ⟨k4, k5, k6, t4, t5, t6⟩ := ev_facts hb
 clear ha hb
 unfold evV
 go_enter Tryz.func130, Tryz.ntmps130
 go_wp2
 all_goals
  go_ret
  exact ⟨ret_bool (by clear k1 k2 k3 t1 t2 t3 k4 k5 k6 t4 t5 t6; rw [Bool.eq_iff_iff]; simp_all [evEq]), ((Mod.refl _ _).alloc _).alloc _⟩
theorem u64_sub {p a : Int} (h1 : I64 p) (h2 : I64 a) (h : a ≤ p) : IntKind.u64.wrap (IntKind.u64.wrap p - IntKind.u64.wrap a) = p - a := by
 rw [IntKind.wrap_u64, IntKind.wrap_u64, IntKind.wrap_u64]
 unfold I64 at h1 h2
 omega
theorem within_any (w : World) (a f s : Int) (ha : I64 a) (hf : I64 f) (hs : I64 s) :
 Calls Tryz.prog 159 #[.int .i64 a, .int .i64 f, .int .i64 s] w fun r w' => r = .returned (.bool (withB a f s)) ∧ w = w' := by
 by_cases h : f ≤ a
 · have hsub := u64_sub ha hf h
   by_cases h0 : 0 ≤ s
   · have hm : IntKind.u64.wrap s = s := IntWalk.u64_in _ (by unfold I64 at hs; omega)
     clear ha hf hs
     go_enter Tryz.func159, Tryz.ntmps159
     go_wp2
     go_ret
     exact ⟨ret_bool (by rw [Bool.eq_iff_iff]; simp [withB, h]), rfl⟩
   · have hm : IntKind.u64.wrap 0 = 0 := by decide
     clear ha hf hs
     go_enter Tryz.func159, Tryz.ntmps159
     go_wp2
     go_ret
     exact ⟨ret_bool (by rw [Bool.eq_iff_iff]; simp [withB, h]; omega), rfl⟩
 · go_enter Tryz.func159, Tryz.ntmps159
   go_wp2
   go_ret
   exact ⟨ret_bool (by simp [withB]; omega), rfl⟩
theorem covers_any (w : World) (e : Ev) (v : Vs) (h : EvAt w e v) (b a : Int) (ha : I64 a) :
 Calls Tryz.prog 134 #[evV e v, .int .i64 b, .int .i64 a] w fun r w' => r = .returned (.bool (evCov e b a)) ∧ Ext w w' := by
 obtain ⟨k1, k2, k3, t1, t2, t3⟩ := ev_facts h
 have hok := h.ok
 clear h
 unfold evV
 go_enter Tryz.func134, Tryz.ntmps134
 go_wp2_with (go_at_call 159; refine (within_any _ _ _ _ ha hok.at_ hok.size).mono ?_; rintro r w' ⟨rfl, rfl⟩)
 all_goals
  go_ret
  exact ⟨ret_bool (by clear k1 k2 k3 t1 t2 t3; rw [Bool.eq_iff_iff]; simp_all [evCov]), (Mod.refl _ _).alloc _⟩
end Go.Proofs.YtbhocahmhmafmaaGreat
namespace Go.Proofs.YtbhocahmhmafmaaGreat
open Go.Ren Go.RowKit
set_option linter.unusedVariables false
abbrev evArr (e : Ev) (v : Vs) : Array Value := #[.int .i64 e.ag, .int .i64 e.kind, .bool e.seq, .bool e.nt, .int .i64 e.blk, .int .i64 e.at_, .int .i64 e.size, v.r, v.w, v.f]
structure EvBox (w : World) (g : Nat) (e : Ev) (v : Vs) : Prop where
 b : w.heap[g]? = some (.cells (evArr e v) 70 (0, 0))
theorem EvBox.ext {w w' : World} {g : Nat} {e : Ev} {v : Vs} (h : EvBox w g e v) (x : Ext w w') : EvBox w' g e v := ⟨x.blk h.b⟩
theorem EvBox.cells {w : World} {g : Nat} {e : Ev} {v : Vs} (h : EvBox w g e v) :
 w.cell? ⟨g, 0, none⟩ = some (.int .i64 e.ag) ∧ w.cell? ⟨g, 1, none⟩ = some (.int .i64 e.kind) ∧ w.cell? ⟨g, 2, none⟩ = some (.bool e.seq) ∧ w.cell? ⟨g, 3, none⟩ = some (.bool e.nt) ∧ w.cell? ⟨g, 4, none⟩ = some (.int .i64 e.blk) ∧
 w.cell? ⟨g, 5, none⟩ = some (.int .i64 e.at_) ∧ w.cell? ⟨g, 6, none⟩ = some (.int .i64 e.size) ∧ w.cell? ⟨g, 7, none⟩ = some v.r ∧ w.cell? ⟨g, 8, none⟩ = some v.w ∧ w.cell? ⟨g, 9, none⟩ = some v.f := by
 simp [World.cell?, h.b]
theorem EvBox.of (w : World) (e : Ev) (v : Vs) : EvBox (w.alloc (.cells (evArr e v) 70)) w.heap.size e v := ⟨heap_alloc_new w _⟩
structure FBox (w w0 : World) (g : Nat) (e : Ev) (v : Vs) : Prop where
 e0 : w0 = w.alloc (.cells (evArr e v) 70)
 eg : g = w.heap.size
 b : EvBox w0 g e v
 x : Ext w w0
theorem FBox.mk' (w : World) (e : Ev) (v : Vs) : ∃ w0 g, FBox w w0 g e v := ⟨_, _, rfl, rfl, EvBox.of w e v, (Mod.refl _ _).alloc _⟩
abbrev FPost (b : Bool) (w : World) (r : Ending) (w' : World) : Prop := r = .returned (.bool b) ∧ Ext w w'
set_option maxRecDepth 100000 in
theorem fields_0 (w : World) (e : Ev) (v : Vs) (h : EvAt w e v) (q0 : e.kind = 0) : Calls Tryz.prog 74 #[evV e v] w (FPost (evFields e) w) := by
 obtain ⟨k1, k2, k3, t1, t2, t3⟩ := ev_facts h
 have l1 := Sl.run_len (P := Tryz.prog) h.rd IB.und 3
 have l2 := Sl.run_len (P := Tryz.prog) h.wr IB.und 3
 have l3 := h.fr.sl.run_len (P := Tryz.prog) II.und 3
 clear h
 obtain ⟨w0, g, hw⟩ := FBox.mk' w e v
 obtain ⟨c0, c1, c2, c3, c4, c5, c6, c7, c8, c9⟩ := hw.b.cells
 unfold evV
 have hf : evFields e = (!e.seq && !e.nt && decide (e.blk = 0 ∧ e.at_ = 0 ∧ e.size = 0) && e.rd.isEmpty && e.wr.isEmpty && e.fr.isEmpty) := by unfold evFields; rw [if_pos q0]
 rw [hf]
 rw [q0] at c1
 have n1 : ((e.rd.length : Int) == 0) = e.rd.isEmpty := by rw [Bool.eq_iff_iff]; simp
 have n2 : ((e.wr.length : Int) == 0) = e.wr.isEmpty := by rw [Bool.eq_iff_iff]; simp
 have n3 : ((e.fr.length : Int) == 0) = e.fr.isEmpty := by rw [Bool.eq_iff_iff]; simp
 clear hf q0
 go_enter Tryz.func74, Tryz.ntmps74
 go_upto_region 1 with fail
 rw [← hw.e0, ← hw.eg]
 clear t1 t2 t3 k1 k2 k3
 go_wp2_with fail
 all_goals
  go_ret
  exact ⟨ret_bool (by simp_all), hw.x⟩
set_option maxRecDepth 100000 in
theorem fields_x (w : World) (e : Ev) (v : Vs) (h : EvAt w e v) (q0 : e.kind ≠ 0) (q1 : e.kind ≠ 1) (q2 : e.kind ≠ 2) (q3 : e.kind ≠ 3 ∨ ¬ (e.seq = true ∧ e.nt = true)) : Calls Tryz.prog 74 #[evV e v] w (FPost (evFields e) w) := by
 obtain ⟨k1, k2, k3, t1, t2, t3⟩ := ev_facts h
 clear h
 obtain ⟨w0, g, hw⟩ := FBox.mk' w e v
 obtain ⟨c0, c1, c2, c3, c4, c5, c6, c7, c8, c9⟩ := hw.b.cells
 unfold evV
 have hf : evFields e = false := by
  unfold evFields
  rw [if_neg q0]
  rcases q3 with h | h
  · simp [q1, q2, h]
  · by_cases hk : e.kind = 3
    · simp only [Bool.and_eq_false_iff]; left; left; right; simp [hk]; simpa using h
    · simp [q1, q2, hk]
 rw [hf]
 clear hf
 go_enter Tryz.func74, Tryz.ntmps74
 go_upto_region 1 with fail
 rw [← hw.e0, ← hw.eg]
 clear t1 t2 t3 k1 k2 k3
 go_upto_region 10 with fail
 all_goals
  first
  | (exfalso; simp_all; done)
  | (go_ret; exact ⟨rfl, hw.x⟩)
structure Kr (e : Ev) : Prop where
 kd : (e.kind = 1 ∧ rdsB e = true ∧ wrsB e = false) ∨ (e.kind = 2 ∧ rdsB e = false ∧ wrsB e = true) ∨ (e.kind = 3 ∧ rdsB e = true ∧ wrsB e = true ∧ e.seq = true ∧ e.nt = true)
theorem evFields_kr {e : Ev} (h : Kr e) : evFields e = (decide (0 ≤ e.blk ∧ e.blk < 16 ∧ 1 ≤ e.size ∧ e.size ≤ 8 ∧ 0 ≤ e.at_ ∧ e.at_ ≤ 256 - e.size) &&
 decide ((e.rd.length : Int) = (if rdsB e then e.size else 0) ∧ (e.fr.length : Int) = (if rdsB e then e.size else 0) ∧ (e.wr.length : Int) = (if wrsB e then e.size else 0))) := by
 unfold evFields
 rcases h.kd with ⟨q1, r1, r2⟩ | ⟨q1, r1, r2⟩ | ⟨q1, r1, r2, r3, r4⟩
 · rw [if_neg (by omega)]; simp [q1]
 · rw [if_neg (by omega)]; simp [q1]
 · rw [if_neg (by omega)]; simp [q1, r3, r4]
set_option maxRecDepth 100000 in
set_option maxHeartbeats 800000 in
theorem fields_bad (w : World) (e : Ev) (v : Vs) (h : EvAt w e v) (hk : Kr e) (hb : ¬ (0 ≤ e.blk ∧ e.blk < 16 ∧ 1 ≤ e.size ∧ e.size ≤ 8 ∧ 0 ≤ e.at_ ∧ e.at_ ≤ 256 - e.size)) : Calls Tryz.prog 74 #[evV e v] w (FPost (evFields e) w) := by
 obtain ⟨k1, k2, k3, t1, t2, t3⟩ := ev_facts h
 have hi := h.ok.size
 unfold I64 at hi
 have hI := Lib.hid hi
 have hf : evFields e = false := by rw [evFields_kr hk, Bool.and_eq_false_iff]; left; simpa using hb
 rw [hf]
 clear h hf hi
 obtain ⟨w0, g, hw⟩ := FBox.mk' w e v
 obtain ⟨c0, c1, c2, c3, c4, c5, c6, c7, c8, c9⟩ := hw.b.cells
 have HB := Lib.hid hb
 unfold evV
 rcases hk.kd with ⟨q1, r1, r2⟩ | ⟨q1, r1, r2⟩ | ⟨q1, r1, r2, r3, r4⟩
 case' inl =>
  have n1 : (e.kind == 1) = true := by simpa using q1
  have m1 : (e.kind != 3) = true := by simp [q1]
 case' inr.inl =>
  have n1 : (e.kind == 1) = false := by simp [q1]
  have n1' : ¬ e.kind = 1 := by omega
  have n2 : (e.kind == 2) = true := by simpa using q1
 case' inr.inr =>
  have n1 : (e.kind == 1) = false := by simp [q1]
  have n1' : ¬ e.kind = 1 := by omega
  have n2 : (e.kind == 2) = false := by simp [q1]
  have n2' : ¬ e.kind = 2 := by omega
  have n3 : (e.kind == 3) = true := by simpa using q1
  rw [r3] at c2
  rw [r4] at c3
  clear hk
  clear r3 r4
 all_goals
  have n0 : (e.kind == 0) = false := by simp [q1]
  clear q1 r1 r2 hb
  go_enter Tryz.func74, Tryz.ntmps74
  go_upto_region 1 with fail
  rw [← hw.e0, ← hw.eg]
  clear t1 t2 t3 k1 k2 k3
  go_upto_region 13 with fail
 all_goals
  first
  | (exfalso; have h1 := HB.out; have h2 := hI.out; omega)
  | (go_ret; exact ⟨rfl, hw.x⟩)
end Go.Proofs.YtbhocahmhmafmaaGreat
namespace Go.Proofs.YtbhocahmhmafmaaGreat
open Go.Ren Go.RowKit
set_option linter.unusedVariables false
set_option maxRecDepth 100000 in
set_option maxHeartbeats 400000 in
theorem fields_good1 (w : World) (e : Ev) (v : Vs) (h : EvAt w e v) (hk : Kr e) (hb : 0 ≤ e.blk ∧ e.blk < 16 ∧ 1 ≤ e.size ∧ e.size ≤ 8 ∧ 0 ≤ e.at_ ∧ e.at_ ≤ 256 - e.size) (q1 : e.kind = 1) (r1 : rdsB e = true) (r2 : wrsB e = false) : Calls Tryz.prog 74 #[evV e v] w (FPost (evFields e) w) := by
 obtain ⟨k1, k2, k3, t1, t2, t3⟩ := ev_facts h
 have l1 := Sl.run_len (P := Tryz.prog) h.rd IB.und 3
 have l2 := Sl.run_len (P := Tryz.prog) h.wr IB.und 3
 have l3 := h.fr.sl.run_len (P := Tryz.prog) II.und 3
 obtain ⟨w0, g, hw⟩ := FBox.mk' w e v
 obtain ⟨c0, c1, c2, c3, c4, c5, c6, c7, c8, c9⟩ := hw.b.cells
 have KEY : Hid (∀ w', Ext w0 w' → EvAt w' e v ∧ EvBox w' g e v) := Lib.hid fun w' x => ⟨h.ext (hw.x.trans x), hw.b.ext x⟩
 have hd : decide (0 ≤ e.blk ∧ e.blk < 16 ∧ 1 ≤ e.size ∧ e.size ≤ 8 ∧ 0 ≤ e.at_ ∧ e.at_ ≤ 256 - e.size) = true := by simpa using hb
 rw [evFields_kr hk, hd, Bool.true_and]
 clear hd h hk
 obtain ⟨b1, b2, b3, b4, b5, b6⟩ := hb
 have b7 : ¬ 256 - e.size < e.at_ := by omega
 unfold evV
 have n1 : (e.kind == 1) = true := by simpa using q1
 have n0 : (e.kind == 0) = false := by simp [q1]
 rw [r1, r2]
 obtain ⟨B, hB⟩ : ∃ B, B = decide ((e.rd.length : Int) = (if rdsB e then e.size else 0) ∧ (e.fr.length : Int) = (if rdsB e then e.size else 0) ∧ (e.wr.length : Int) = (if wrsB e then e.size else 0)) := ⟨_, rfl⟩
 rw [r1, r2] at hB
 rw [← hB]
 have HB := Lib.hid hB
 have R := Lib.hid (And.intro r1 r2)
 clear hB
 clear q1 r1 r2
 go_enter Tryz.func74, Tryz.ntmps74
 go_upto_region 1 with fail
 rw [← hw.e0, ← hw.eg]
 clear t1 t2 t3 k1 k2 k3
 go_upto_region 13 with fail
 go_wp2_with fail
 refine (reads_any _ e v (KEY.out _ (Mod.refl _ _)).1).mono ?_
 rintro r w1 ⟨rfl, x1⟩
 rw [R.out.1]
 clear c0 c1 c2 c3 c4 c5 c6 c7 c8 c9
 obtain ⟨d0, d1, d2, d3, d4, d5, d6, d7, d8, d9⟩ := (KEY.out _ x1).2.cells
 go_wp2_with fail
 refine (writes_any _ e v (KEY.out _ x1).1).mono ?_
 rintro r w2 ⟨rfl, x2⟩
 rw [R.out.2]
 clear d0 d1 d2 d3 d4 d5 d6 d7 d8 d9
 obtain ⟨e0, e1, e2, e3, e4, e5, e6, e7, e8, e9⟩ := (KEY.out _ (x1.trans x2)).2.cells
 go_wp2_with fail
 all_goals
  go_ret
  refine ⟨ret_bool ?_, (hw.x.trans x1).trans x2⟩
  rw [HB.out, Bool.eq_iff_iff]
  clear l1 l2 l3 e0 e1 e2 e3 e4 e5 e6 e7 e8 e9
  simp
  try first | omega | (simp_all; done)
set_option maxRecDepth 100000 in
set_option maxHeartbeats 400000 in
theorem fields_good2 (w : World) (e : Ev) (v : Vs) (h : EvAt w e v) (hk : Kr e) (hb : 0 ≤ e.blk ∧ e.blk < 16 ∧ 1 ≤ e.size ∧ e.size ≤ 8 ∧ 0 ≤ e.at_ ∧ e.at_ ≤ 256 - e.size) (q1 : e.kind = 2) (r1 : rdsB e = false) (r2 : wrsB e = true) : Calls Tryz.prog 74 #[evV e v] w (FPost (evFields e) w) := by
 obtain ⟨k1, k2, k3, t1, t2, t3⟩ := ev_facts h
 have l1 := Sl.run_len (P := Tryz.prog) h.rd IB.und 3
 have l2 := Sl.run_len (P := Tryz.prog) h.wr IB.und 3
 have l3 := h.fr.sl.run_len (P := Tryz.prog) II.und 3
 obtain ⟨w0, g, hw⟩ := FBox.mk' w e v
 obtain ⟨c0, c1, c2, c3, c4, c5, c6, c7, c8, c9⟩ := hw.b.cells
 have KEY : Hid (∀ w', Ext w0 w' → EvAt w' e v ∧ EvBox w' g e v) := Lib.hid fun w' x => ⟨h.ext (hw.x.trans x), hw.b.ext x⟩
 have hd : decide (0 ≤ e.blk ∧ e.blk < 16 ∧ 1 ≤ e.size ∧ e.size ≤ 8 ∧ 0 ≤ e.at_ ∧ e.at_ ≤ 256 - e.size) = true := by simpa using hb
 rw [evFields_kr hk, hd, Bool.true_and]
 clear hd h hk
 obtain ⟨b1, b2, b3, b4, b5, b6⟩ := hb
 have b7 : ¬ 256 - e.size < e.at_ := by omega
 unfold evV
 have n1 : (e.kind == 1) = false := by simp [q1]
 have n1' : ¬ e.kind = 1 := by omega
 have n2 : (e.kind == 2) = true := by simpa using q1
 have n0 : (e.kind == 0) = false := by simp [q1]
 rw [r1, r2]
 obtain ⟨B, hB⟩ : ∃ B, B = decide ((e.rd.length : Int) = (if rdsB e then e.size else 0) ∧ (e.fr.length : Int) = (if rdsB e then e.size else 0) ∧ (e.wr.length : Int) = (if wrsB e then e.size else 0)) := ⟨_, rfl⟩
 rw [r1, r2] at hB
 rw [← hB]
 have HB := Lib.hid hB
 have R := Lib.hid (And.intro r1 r2)
 clear hB
 clear q1 r1 r2
 go_enter Tryz.func74, Tryz.ntmps74
 go_upto_region 1 with fail
 rw [← hw.e0, ← hw.eg]
 clear t1 t2 t3 k1 k2 k3
 go_upto_region 13 with fail
 go_wp2_with fail
 refine (reads_any _ e v (KEY.out _ (Mod.refl _ _)).1).mono ?_
 rintro r w1 ⟨rfl, x1⟩
 rw [R.out.1]
 clear c0 c1 c2 c3 c4 c5 c6 c7 c8 c9
 obtain ⟨d0, d1, d2, d3, d4, d5, d6, d7, d8, d9⟩ := (KEY.out _ x1).2.cells
 go_wp2_with fail
 refine (writes_any _ e v (KEY.out _ x1).1).mono ?_
 rintro r w2 ⟨rfl, x2⟩
 rw [R.out.2]
 clear d0 d1 d2 d3 d4 d5 d6 d7 d8 d9
 obtain ⟨e0, e1, e2, e3, e4, e5, e6, e7, e8, e9⟩ := (KEY.out _ (x1.trans x2)).2.cells
 go_wp2_with fail
 all_goals
  go_ret
  refine ⟨ret_bool ?_, (hw.x.trans x1).trans x2⟩
  rw [HB.out, Bool.eq_iff_iff]
  clear l1 l2 l3 e0 e1 e2 e3 e4 e5 e6 e7 e8 e9
  simp
  try first | omega | (simp_all; done)
set_option maxRecDepth 100000 in
set_option maxHeartbeats 400000 in
theorem fields_good3 (w : World) (e : Ev) (v : Vs) (h : EvAt w e v) (hk : Kr e) (hb : 0 ≤ e.blk ∧ e.blk < 16 ∧ 1 ≤ e.size ∧ e.size ≤ 8 ∧ 0 ≤ e.at_ ∧ e.at_ ≤ 256 - e.size) (q1 : e.kind = 3) (r1 : rdsB e = true) (r2 : wrsB e = true) (r3 : e.seq = true) (r4 : e.nt = true) : Calls Tryz.prog 74 #[evV e v] w (FPost (evFields e) w) := by
 obtain ⟨k1, k2, k3, t1, t2, t3⟩ := ev_facts h
 have l1 := Sl.run_len (P := Tryz.prog) h.rd IB.und 3
 have l2 := Sl.run_len (P := Tryz.prog) h.wr IB.und 3
 have l3 := h.fr.sl.run_len (P := Tryz.prog) II.und 3
 obtain ⟨w0, g, hw⟩ := FBox.mk' w e v
 obtain ⟨c0, c1, c2, c3, c4, c5, c6, c7, c8, c9⟩ := hw.b.cells
 have KEY : Hid (∀ w', Ext w0 w' → EvAt w' e v ∧ EvBox w' g e v) := Lib.hid fun w' x => ⟨h.ext (hw.x.trans x), hw.b.ext x⟩
 have hd : decide (0 ≤ e.blk ∧ e.blk < 16 ∧ 1 ≤ e.size ∧ e.size ≤ 8 ∧ 0 ≤ e.at_ ∧ e.at_ ≤ 256 - e.size) = true := by simpa using hb
 rw [evFields_kr hk, hd, Bool.true_and]
 clear hd h hk
 obtain ⟨b1, b2, b3, b4, b5, b6⟩ := hb
 have b7 : ¬ 256 - e.size < e.at_ := by omega
 unfold evV
 have n1 : (e.kind == 1) = false := by simp [q1]
 have n1' : ¬ e.kind = 1 := by omega
 have n2 : (e.kind == 2) = false := by simp [q1]
 have n2' : ¬ e.kind = 2 := by omega
 have n3 : (e.kind == 3) = true := by simpa using q1
 rw [r3] at c2
 rw [r4] at c3
 have R3 := Lib.hid (And.intro r3 r4)
 clear r3 r4
 have n0 : (e.kind == 0) = false := by simp [q1]
 rw [r1, r2]
 obtain ⟨B, hB⟩ : ∃ B, B = decide ((e.rd.length : Int) = (if rdsB e then e.size else 0) ∧ (e.fr.length : Int) = (if rdsB e then e.size else 0) ∧ (e.wr.length : Int) = (if wrsB e then e.size else 0)) := ⟨_, rfl⟩
 rw [r1, r2] at hB
 rw [← hB]
 have HB := Lib.hid hB
 have R := Lib.hid (And.intro r1 r2)
 clear hB
 clear q1 r1 r2
 go_enter Tryz.func74, Tryz.ntmps74
 go_upto_region 1 with fail
 rw [← hw.e0, ← hw.eg]
 clear t1 t2 t3 k1 k2 k3
 go_upto_region 13 with fail
 clear c0 c1 c2 c3 c4 c5 c6 c7 c8 c9
 obtain ⟨c0, c1, c2, c3, c4, c5, c6, c7, c8, c9⟩ := hw.b.cells
 go_wp2_with fail
 refine (reads_any _ e v (KEY.out _ (Mod.refl _ _)).1).mono ?_
 rintro r w1 ⟨rfl, x1⟩
 rw [R.out.1]
 clear c0 c1 c2 c3 c4 c5 c6 c7 c8 c9
 obtain ⟨d0, d1, d2, d3, d4, d5, d6, d7, d8, d9⟩ := (KEY.out _ x1).2.cells
 go_wp2_with fail
 refine (writes_any _ e v (KEY.out _ x1).1).mono ?_
 rintro r w2 ⟨rfl, x2⟩
 rw [R.out.2]
 clear d0 d1 d2 d3 d4 d5 d6 d7 d8 d9
 obtain ⟨e0, e1, e2, e3, e4, e5, e6, e7, e8, e9⟩ := (KEY.out _ (x1.trans x2)).2.cells
 go_wp2_with fail
 all_goals
  go_ret
  refine ⟨ret_bool ?_, (hw.x.trans x1).trans x2⟩
  rw [HB.out, Bool.eq_iff_iff]
  clear l1 l2 l3 e0 e1 e2 e3 e4 e5 e6 e7 e8 e9
  simp
  try first | omega | (simp_all; done)
theorem fields_any (w : World) (e : Ev) (v : Vs) (h : EvAt w e v) : Calls Tryz.prog 74 #[evV e v] w (FPost (evFields e) w) := by
 by_cases q0 : e.kind = 0
 · exact fields_0 w e v h q0
 by_cases hk : Kr e
 · by_cases hb : 0 ≤ e.blk ∧ e.blk < 16 ∧ 1 ≤ e.size ∧ e.size ≤ 8 ∧ 0 ≤ e.at_ ∧ e.at_ ≤ 256 - e.size
   · rcases hk.kd with ⟨q1, r1, r2⟩ | ⟨q1, r1, r2⟩ | ⟨q1, r1, r2, r3, r4⟩
     · exact fields_good1 w e v h hk hb q1 r1 r2
     · exact fields_good2 w e v h hk hb q1 r1 r2
     · exact fields_good3 w e v h hk hb q1 r1 r2 r3 r4
   · exact fields_bad w e v h hk hb
 · have h1 : e.kind ≠ 1 := fun h => hk ⟨.inl ⟨h, by simp [rdsB, h], by simp [wrsB, h]⟩⟩
   have h2 : e.kind ≠ 2 := fun h => hk ⟨.inr (.inl ⟨h, by simp [rdsB, h], by simp [wrsB, h]⟩)⟩
   have h3 : e.kind ≠ 3 ∨ ¬ (e.seq = true ∧ e.nt = true) := by
    by_cases h3 : e.kind = 3
    · exact .inr fun h => hk ⟨.inr (.inr ⟨h3, by simp [rdsB, h3], by simp [wrsB, h3], h.1, h.2⟩)⟩
    · exact .inl h3
   exact fields_x w e v h q0 h1 h2 h3
end Go.Proofs.YtbhocahmhmafmaaGreat
