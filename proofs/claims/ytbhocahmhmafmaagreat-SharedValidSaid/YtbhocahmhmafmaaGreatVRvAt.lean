/-
  The contracts of the document's small functions of chapter 14, of renlaw14.Event. No condition. The contract of renref14.shape, agents, kinds, ranges that may not be; Syncs. No condition. The contract of renref14.shape, events of kind 1. No condition. The contract of renref14.shape, events of kind 2. No condition. The contract of renref14.shape, events of kind 3. No condition. The contract of renref14.shape, all. No condition.
-/
import Derived.Test.YtbhocahmhmafmaaGreatVEvCopied
import Derived.Test.YtbhocahmhmafmaaGreatVBlkLaw
import Derived.Test.YtbhocahmhmafmaaGreatVPlan
namespace Go.Proofs.YtbhocahmhmafmaaGreat
open Go.Ren Go.RowKit
set_option linter.unusedVariables false
structure REvBox (w : World) (g : Nat) (e : Ev) (v : Vs) : Prop where
 b : w.heap[g]? = some (.cells (evArr e v) 116 (0, 0))
theorem REvBox.ext {w w' : World} {g : Nat} {e : Ev} {v : Vs} (h : REvBox w g e v) (x : Ext w w') : REvBox w' g e v := ⟨x.blk h.b⟩
theorem REvBox.cells {w : World} {g : Nat} {e : Ev} {v : Vs} (h : REvBox w g e v) :
 w.cell? ⟨g, 0, none⟩ = some (.int .i64 e.ag) ∧ w.cell? ⟨g, 1, none⟩ = some (.int .i64 e.kind) ∧ w.cell? ⟨g, 2, none⟩ = some (.bool e.seq) ∧ w.cell? ⟨g, 3, none⟩ = some (.bool e.nt) ∧ w.cell? ⟨g, 4, none⟩ = some (.int .i64 e.blk) ∧ w.cell? ⟨g, 5, none⟩ = some (.int .i64 e.at_) ∧ w.cell? ⟨g, 6, none⟩ = some (.int .i64 e.size) ∧ w.cell? ⟨g, 7, none⟩ = some v.r ∧ w.cell? ⟨g, 8, none⟩ = some v.w ∧ w.cell? ⟨g, 9, none⟩ = some v.f := by
 simp [World.cell?, h.b]
theorem rreads_any (w : World) (e : Ev) (v : Vs) (h : EvAt w e v) :
 Calls Tryz.prog 161 #[evV e v] w fun r w' => r = .returned (.bool (rdsB e)) ∧ Ext w w' := by
 obtain ⟨k1, k2, k3, t1, t2, t3⟩ := ev_facts h
 clear h
 unfold evV
 go_enter Tryz.func161, Tryz.ntmps161
 go_wp2
 all_goals
  go_ret
  exact ⟨ret_bool (by clear k1 k2 k3 t1 t2 t3; rw [Bool.eq_iff_iff]; simp_all [rdsB]), (Mod.refl _ _).alloc _⟩
theorem rwrites_any (w : World) (e : Ev) (v : Vs) (h : EvAt w e v) :
 Calls Tryz.prog 162 #[evV e v] w fun r w' => r = .returned (.bool (wrsB e)) ∧ Ext w w' := by
 obtain ⟨k1, k2, k3, t1, t2, t3⟩ := ev_facts h
 clear h
 unfold evV
 go_enter Tryz.func162, Tryz.ntmps162
 go_wp2
 all_goals
  go_ret
  exact ⟨ret_bool (by clear k1 k2 k3 t1 t2 t3; rw [Bool.eq_iff_iff]; simp_all [wrsB]), (Mod.refl _ _).alloc _⟩
theorem requal_any (w : World) (a b : Ev) (v u : Vs) (ha : EvAt w a v) (hb : EvAt w b u) :
 Calls Tryz.prog 143 #[evV a v, evV b u] w fun r w' => r = .returned (.bool (evEq a b)) ∧ Ext w w' := by
 obtain ⟨k1, k2, k3, t1, t2, t3⟩ := ev_facts ha
 obtain ⟨k4, k5, k6, t4, t5, t6⟩ := ev_facts hb
 clear ha hb
 unfold evV
 go_enter Tryz.func143, Tryz.ntmps143
 go_wp2
 all_goals
  go_ret
  exact ⟨ret_bool (by clear k1 k2 k3 t1 t2 t3 k4 k5 k6 t4 t5 t6; rw [Bool.eq_iff_iff]; simp_all [evEq]), ((Mod.refl _ _).alloc _).alloc _⟩
theorem rcov_eq {e : Ev} {b a : Int} (c : Bool) (h : c = decide (e.kind ≠ 0 ∧ e.blk = b ∧ 0 < e.size ∧ e.at_ ≤ a ∧ a - e.at_ < e.size)) : c = evCov e b a := by
 rw [h, Bool.eq_iff_iff]
 unfold evCov withB
 simp only [Bool.and_eq_true, decide_eq_true_eq]
 constructor
 · rintro ⟨h1, h2, h3, h4, h5⟩; exact ⟨⟨h1, h2⟩, h4, h5⟩
 · rintro ⟨⟨h1, h2⟩, h4, h5⟩; exact ⟨h1, h2, by omega, h4, h5⟩
theorem rcovers_any (w : World) (e : Ev) (v : Vs) (h : EvAt w e v) (b a : Int) (ha : I64 a) :
 Calls Tryz.prog 163 #[evV e v, .int .i64 b, .int .i64 a] w fun r w' => r = .returned (.bool (evCov e b a)) ∧ Ext w w' := by
 obtain ⟨k1, k2, k3, t1, t2, t3⟩ := ev_facts h
 have hok := h.ok
 clear h
 unfold evV
 obtain ⟨C, hC⟩ : ∃ C, C = evCov e b a := ⟨_, rfl⟩
 rw [← hC]
 have HC := Lib.hid hC
 clear hC
 rcases (by omega : e.kind = 0 ∨ (e.kind ≠ 0 ∧ e.blk ≠ b) ∨ (e.kind ≠ 0 ∧ e.blk = b ∧ e.size ≤ 0) ∨ (e.kind ≠ 0 ∧ e.blk = b ∧ 0 < e.size ∧ a < e.at_) ∨ (e.kind ≠ 0 ∧ e.blk = b ∧ 0 < e.size ∧ e.at_ ≤ a)) with z | ⟨z, z1⟩ | ⟨z, z1, z2⟩ | ⟨z, z1, z2, z3⟩ | ⟨z, z1, z2, z3⟩
 case inr.inr.inr.inr =>
  have hsub := u64_sub ha hok.at_ z3
  have hm : IntKind.u64.wrap e.size = e.size := IntWalk.u64_in _ (by have := hok.size; unfold I64 at this; omega)
  have e0 : (e.kind != 0) = true := by simpa using z
  have e1 : (e.blk == b) = true := by simpa using z1
  have HF : Hid (C = decide (a - e.at_ < e.size)) := Lib.hid (by rw [HC.out]; refine (rcov_eq _ ?_).symm; simp only [decide_eq_decide]; omega)
  clear ha hok z z1
  go_enter Tryz.func163, Tryz.ntmps163
  go_wp2
  all_goals
   go_ret
   exact ⟨ret_bool (by rw [HF.out]), (Mod.refl _ _).alloc _⟩
 all_goals
  have HF : Hid (C = false) := Lib.hid (by rw [HC.out]; refine (rcov_eq _ ?_).symm; symm; rw [decide_eq_false_iff_not]; omega)
  clear ha hok
 case inl =>
  have e0 : (e.kind != 0) = false := by simpa using z
  clear z
  go_enter Tryz.func163, Tryz.ntmps163
  go_wp2
  go_ret
  exact ⟨ret_bool HF.out.symm, (Mod.refl _ _).alloc _⟩
 case inr.inl =>
  have e0 : (e.kind != 0) = true := by simpa using z
  have e1 : (e.blk == b) = false := by simpa using z1
  clear z z1
  go_enter Tryz.func163, Tryz.ntmps163
  go_wp2
  go_ret
  exact ⟨ret_bool HF.out.symm, (Mod.refl _ _).alloc _⟩
 case inr.inr.inl =>
  have e0 : (e.kind != 0) = true := by simpa using z
  have e1 : (e.blk == b) = true := by simpa using z1
  clear z z1
  go_enter Tryz.func163, Tryz.ntmps163
  go_wp2
  go_ret
  exact ⟨ret_bool HF.out.symm, (Mod.refl _ _).alloc _⟩
 case inr.inr.inr.inl =>
  have e0 : (e.kind != 0) = true := by simpa using z
  have e1 : (e.blk == b) = true := by simpa using z1
  clear z z1
  go_enter Tryz.func163, Tryz.ntmps163
  go_wp2
  go_ret
  exact ⟨ret_bool HF.out.symm, (Mod.refl _ _).alloc _⟩
def EvPost (e : Ev) (v : Vs) (w : World) (r : Ending) (w' : World) : Prop := r = .returned (evV e v) ∧ Ext w w'
set_option maxRecDepth 100000 in
theorem event_any (w : World) (e : Ev) (v : Vs) (h : EvAt w e v) :
 Calls Tryz.prog 73 #[evV e v] w (EvPost e v w) := by
 obtain ⟨vr, vw, vf⟩ := v
 obtain ⟨a1, c1, h1, -⟩ := h.rd.shape
 obtain ⟨a2, c2, h2, -⟩ := h.wr.shape
 obtain ⟨a3, c3, h3, -⟩ := h.fr.sl.shape
 simp only at h1 h2 h3
 subst h1 h2 h3
 clear h
 obtain ⟨g, hg⟩ : ∃ g, g = w.heap.size := ⟨_, rfl⟩
 obtain ⟨w0, hw0⟩ : ∃ w0, w0 = (w.alloc (.cells (evArr e ⟨.slice a1 e.rd.length c1, .slice a2 e.wr.length c2, .slice a3 e.fr.length c3⟩) 70)).alloc (.cells #[.int .i64 0, .int .i64 0, .bool false, .bool false, .int .i64 0, .int .i64 0, .int .i64 0, .slice none 0 0, .slice none 0 0, .slice none 0 0] 116) := ⟨_, rfl⟩
 have x0 : Ext w w0 := by rw [hw0]; exact ((Mod.refl _ _).alloc _).alloc _
 have b0 : EvBox w0 g e ⟨.slice a1 e.rd.length c1, .slice a2 e.wr.length c2, .slice a3 e.fr.length c3⟩ := ⟨by rw [hw0, hg]; exact heap_alloc2_old _ _ _⟩
 have b1 : w0.heap[g + 1]? = some (.cells #[.int .i64 0, .int .i64 0, .bool false, .bool false, .int .i64 0, .int .i64 0, .int .i64 0, .slice none 0 0, .slice none 0 0, .slice none 0 0] 116 (0, 0)) := by rw [hw0, hg]; exact heap_alloc2_new _ _ _
 have HW := Lib.hid (And.intro hw0 (And.intro hg (And.intro x0 b1)))
 obtain ⟨d0, d1, d2, d3, d4, d5, d6, d7, d8, d9⟩ := b0.cells
 clear hw0 hg x0 b0 b1
 unfold evV
 go_enter Tryz.func73, Tryz.ntmps73
 go_upto_region 1 with fail
 rw [← HW.out.1, ← HW.out.2.1]
 go_wp2_with (refine wpList_store_row rfl 116 (.tmp 2) (.tmp 23) rfl (g + 1) (evArr e ⟨.slice a1 e.rd.length c1, .slice a2 e.wr.length c2, .slice a3 e.fr.length c3⟩) rfl rfl 116 _ HW.out.2.2.2 (by kernel_rfl) rfl (evArr_all rfl rfl rfl) ?_)
 have hb := setRow_heap w0 (g + 1) _ (evArr e ⟨.slice a1 e.rd.length c1, .slice a2 e.wr.length c2, .slice a3 e.fr.length c3⟩) _ _ HW.out.2.2.2
 refine bodyPost_ret (results_cell_row rfl _ _ (g + 1) 116 _ (0, 0) _ rfl hb Tryz.underlying116 rfl (by kernel_rfl)) rfl ?_
 exact ⟨rfl, HW.out.2.2.1.trans' (G := fun k => k = g + 1) ⟨rfl, rfl, rfl, by simp [World.setRow], fun k _ hk => setRow_other w0 (g + 1) k _ hk⟩ (fun i hi => .inr (by have := HW.out.2.1; omega))⟩
end Go.Proofs.YtbhocahmhmafmaaGreat
namespace Go.Ren
def evShape (e : Ev) : Bool := decide (0 ≤ e.ag ∧ e.ag < 64) && evFields e
theorem evShape_kind {e : Ev} (h : e.kind < 0 ∨ 3 < e.kind) : evShape e = false := by
 unfold evShape evFields
 rw [if_neg (by omega)]
 have : decide (e.kind = 1 ∨ e.kind = 2 ∨ e.kind = 3) = false := by rw [decide_eq_false_iff_not]; omega
 rw [this]; simp
theorem evShape_ag {e : Ev} (h : e.ag < 0 ∨ 64 ≤ e.ag) : evShape e = false := by
 unfold evShape
 have : decide (0 ≤ e.ag ∧ e.ag < 64) = false := by rw [decide_eq_false_iff_not]; omega
 rw [this]; rfl
theorem evShape_rng {e : Ev} (hk : e.kind ≠ 0) (h : ¬ (0 ≤ e.blk ∧ e.blk < 16 ∧ 1 ≤ e.size ∧ e.size ≤ 8 ∧ 0 ≤ e.at_ ∧ e.at_ ≤ 256 - e.size)) : evShape e = false := by
 unfold evShape evFields
 rw [if_neg hk]
 have : decide (0 ≤ e.blk ∧ e.blk < 16 ∧ 1 ≤ e.size ∧ e.size ≤ 8 ∧ 0 ≤ e.at_ ∧ e.at_ ≤ 256 - e.size) = false := by rw [decide_eq_false_iff_not]; exact h
 rw [this]; simp
end Go.Ren
namespace Go.Proofs.YtbhocahmhmafmaaGreat
open Go.Ren Go.RowKit
set_option linter.unusedVariables false
theorem evShape_sync {e : Ev} (hk : e.kind = 0) (h0 : 0 ≤ e.ag) (h1 : e.ag < 64) : evShape e = (!e.seq && !e.nt && decide (e.blk = 0) && decide (e.at_ = 0) && decide (e.size = 0) && decide ((e.rd.length : Int) + (e.wr.length : Int) + (e.fr.length : Int) = 0)) := by
 unfold evShape evFields
 rw [if_pos hk, Bool.eq_iff_iff]
 simp only [Bool.and_eq_true, decide_eq_true_eq, List.isEmpty_iff, Bool.not_eq_true']
 constructor
 · rintro ⟨_, ⟨⟨⟨⟨a, b⟩, c, d, f⟩, g⟩, h⟩, i⟩
   rw [g, h, i]
   exact ⟨⟨⟨⟨⟨a, b⟩, c⟩, d⟩, f⟩, rfl⟩
 · rintro ⟨⟨⟨⟨⟨a, b⟩, c⟩, d⟩, f⟩, g⟩
   exact ⟨⟨h0, h1⟩, ⟨⟨⟨⟨⟨a, b⟩, c, d, f⟩, List.eq_nil_of_length_eq_zero (by omega)⟩, List.eq_nil_of_length_eq_zero (by omega)⟩, List.eq_nil_of_length_eq_zero (by omega)⟩⟩
theorem evShape_good {e : Ev} (hk : 1 ≤ e.kind ∧ e.kind ≤ 3) (h0 : 0 ≤ e.ag) (h1 : e.ag < 64) (h : 0 ≤ e.blk ∧ e.blk < 16 ∧ 1 ≤ e.size ∧ e.size ≤ 8 ∧ 0 ≤ e.at_ ∧ e.at_ ≤ 256 - e.size) : evShape e = ((decide (e.kind ≠ 3) || e.seq && e.nt) && decide ((e.rd.length : Int) = (if rdsB e then e.size else 0) ∧ (e.fr.length : Int) = (if rdsB e then e.size else 0) ∧ (e.wr.length : Int) = (if wrsB e then e.size else 0))) := by
 unfold evShape evFields
 rw [if_neg (by omega)]
 have e1 : decide (0 ≤ e.ag ∧ e.ag < 64) = true := by rw [decide_eq_true_eq]; omega
 have e2 : decide (e.kind = 1 ∨ e.kind = 2 ∨ e.kind = 3) = true := by rw [decide_eq_true_eq]; omega
 have e3 : decide (0 ≤ e.blk ∧ e.blk < 16 ∧ 1 ≤ e.size ∧ e.size ≤ 8 ∧ 0 ≤ e.at_ ∧ e.at_ ≤ 256 - e.size) = true := by rw [decide_eq_true_eq]; exact h
 rw [e1, e2, e3]; simp
set_option maxRecDepth 100000 in
set_option maxHeartbeats 1600000 in
theorem shape_a (w : World) (e : Ev) (v : Vs) (h : EvAt w e v) (hsm : e.rd.length ≤ 20000 ∧ e.wr.length ≤ 20000 ∧ e.fr.length ≤ 20000) (hbad : ¬ (0 ≤ e.ag ∧ e.ag < 64 ∧ 1 ≤ e.kind ∧ e.kind ≤ 3)) :
 Calls Tryz.prog 139 #[evV e v] w (FPost (evShape e) w) := by
 obtain ⟨k1, k2, k3, t1, t2, t3⟩ := ev_facts h
 have n1 := Sl.run_len (P := Tryz.prog) h.rd IB.und 3
 have n2 := Sl.run_len (P := Tryz.prog) h.wr IB.und 3
 have n3 := h.fr.sl.run_len (P := Tryz.prog) II.und 3
 obtain ⟨m1, m2, m3⟩ := hsm
 have m1 : (e.rd.length : Int) ≤ 20000 := by omega
 have m2 : (e.wr.length : Int) ≤ 20000 := by omega
 have m3 : (e.fr.length : Int) ≤ 20000 := by omega
 obtain ⟨w0, hw0⟩ : ∃ w0, w0 = w.alloc (.cells (evArr e v) 116) := ⟨_, rfl⟩
 obtain ⟨g, hg⟩ : ∃ g, g = w.heap.size := ⟨_, rfl⟩
 have x0 : Ext w w0 := by rw [hw0]; exact (Mod.refl _ _).alloc _
 have b0 : REvBox w0 g e v := ⟨by rw [hw0, hg]; exact heap_alloc_new _ _⟩
 have KE : Hid (∀ w', Ext w0 w' → REvBox w' g e v ∧ EvAt w' e v) := Lib.hid fun w' x => ⟨b0.ext x, h.ext (x0.trans x)⟩
 have HW := Lib.hid (And.intro hw0 (And.intro hg x0))
 obtain ⟨c0, c1, c2, c3, c4, c5, c6, c7, c8, c9⟩ := b0.cells
 obtain ⟨B, hB⟩ : ∃ B, B = evShape e := ⟨_, rfl⟩
 rw [← hB]
 have HB := Lib.hid hB
 clear hw0 hg x0 b0 h hB
 unfold evV
 go_enter Tryz.func139, Tryz.ntmps139
 go_upto_region 1 with fail
 rw [← HW.out.1, ← HW.out.2.1]
 clear t1 t2 t3
 rcases (by omega : e.ag < 0 ∨ (0 ≤ e.ag ∧ 64 ≤ e.ag) ∨ (0 ≤ e.ag ∧ e.ag < 64 ∧ e.kind < 0) ∨ (0 ≤ e.ag ∧ e.ag < 64 ∧ 0 ≤ e.kind ∧ 3 < e.kind) ∨ (0 ≤ e.ag ∧ e.ag < 64 ∧ e.kind = 0)) with z0 | ⟨z0, z1⟩ | ⟨z0, z1, z2⟩ | ⟨z0, z1, z2, z3⟩ | ⟨z0, z1, hk⟩
 all_goals clear hbad
 case inl =>
  have HF : Hid (B = false) := Lib.hid (by rw [HB.out]; exact evShape_ag (by omega))
  go_wp2_with fail
  go_ret
  exact ⟨ret_bool HF.out.symm, HW.out.2.2⟩
 case inr.inl =>
  have HF : Hid (B = false) := Lib.hid (by rw [HB.out]; exact evShape_ag (by omega))
  go_wp2_with fail
  go_ret
  exact ⟨ret_bool HF.out.symm, HW.out.2.2⟩
 case inr.inr.inl =>
  have HF : Hid (B = false) := Lib.hid (by rw [HB.out]; exact evShape_kind (by omega))
  go_wp2_with fail
  go_ret
  exact ⟨ret_bool HF.out.symm, HW.out.2.2⟩
 case inr.inr.inr.inl =>
  have HF : Hid (B = false) := Lib.hid (by rw [HB.out]; exact evShape_kind (by omega))
  go_wp2_with fail
  go_ret
  exact ⟨ret_bool HF.out.symm, HW.out.2.2⟩
 case inr.inr.inr.inr =>
  have e0 : (e.kind == 0) = true := by simpa using hk
  have e1 : ¬ e.kind < 0 := by omega
  have e2 : ¬ 3 < e.kind := by omega
  have HK := Lib.hid hk
  clear hk
  by_cases q0 : e.seq = false
  case neg =>
   have HF : Hid (B = false) := Lib.hid (by rw [HB.out]; cases hb : evShape e with | false => rfl | true => exfalso; rw [evShape_sync HK.out z0 z1] at hb; simp [-List.length_eq_zero_iff] at hb; simp_all)
   have b0 : e.seq = true := by simpa using q0
   clear q0
   go_wp2_with fail
   go_ret
   exact ⟨ret_bool HF.out.symm, HW.out.2.2⟩
  case pos =>
   have b0 := q0
   have Q0 := Lib.hid q0
   clear q0
   by_cases q1 : e.nt = false
   case neg =>
    have HF : Hid (B = false) := Lib.hid (by rw [HB.out]; cases hb : evShape e with | false => rfl | true => exfalso; rw [evShape_sync HK.out z0 z1] at hb; simp [-List.length_eq_zero_iff] at hb; simp_all)
    have b1 : e.nt = true := by simpa using q1
    clear q1
    go_wp2_with fail
    go_ret
    exact ⟨ret_bool HF.out.symm, HW.out.2.2⟩
   case pos =>
    have b1 := q1
    have Q1 := Lib.hid q1
    clear q1
    by_cases q2 : e.blk = 0
    case neg =>
     have HF : Hid (B = false) := Lib.hid (by rw [HB.out]; cases hb : evShape e with | false => rfl | true => exfalso; rw [evShape_sync HK.out z0 z1] at hb; simp [-List.length_eq_zero_iff] at hb; omega)
     have b2 : (e.blk == 0) = false := by simpa using q2
     clear q2
     go_wp2_with fail
     go_ret
     exact ⟨ret_bool HF.out.symm, HW.out.2.2⟩
    case pos =>
     have b2 : (e.blk == 0) = true := by simpa using q2
     have Q2 := Lib.hid q2
     clear q2
     by_cases q3 : e.at_ = 0
     case neg =>
      have HF : Hid (B = false) := Lib.hid (by rw [HB.out]; cases hb : evShape e with | false => rfl | true => exfalso; rw [evShape_sync HK.out z0 z1] at hb; simp [-List.length_eq_zero_iff] at hb; omega)
      have b3 : (e.at_ == 0) = false := by simpa using q3
      clear q3
      go_wp2_with fail
      go_ret
      exact ⟨ret_bool HF.out.symm, HW.out.2.2⟩
     case pos =>
      have b3 : (e.at_ == 0) = true := by simpa using q3
      have Q3 := Lib.hid q3
      clear q3
      by_cases q4 : e.size = 0
      case neg =>
       have HF : Hid (B = false) := Lib.hid (by rw [HB.out]; cases hb : evShape e with | false => rfl | true => exfalso; rw [evShape_sync HK.out z0 z1] at hb; simp [-List.length_eq_zero_iff] at hb; omega)
       have b4 : (e.size == 0) = false := by simpa using q4
       clear q4
       go_wp2_with fail
       go_ret
       exact ⟨ret_bool HF.out.symm, HW.out.2.2⟩
      case pos =>
       have b4 : (e.size == 0) = true := by simpa using q4
       have Q4 := Lib.hid q4
       clear q4
       by_cases q5 : (e.rd.length : Int) + (e.wr.length : Int) + (e.fr.length : Int) = 0
       case neg =>
        have HF : Hid (B = false) := Lib.hid (by rw [HB.out]; cases hb : evShape e with | false => rfl | true => exfalso; rw [evShape_sync HK.out z0 z1] at hb; simp [-List.length_eq_zero_iff] at hb; omega)
        have b5 : ((e.rd.length : Int) + (e.wr.length : Int) + (e.fr.length : Int) == 0) = false := by simpa using q5
        clear q5
        go_wp2_with fail
        go_ret
        exact ⟨ret_bool HF.out.symm, HW.out.2.2⟩
       case pos =>
        have b5 : ((e.rd.length : Int) + (e.wr.length : Int) + (e.fr.length : Int) == 0) = true := by simpa using q5
        have Q5 := Lib.hid q5
        clear q5
        have HF : Hid (B = true) := Lib.hid (by rw [HB.out, evShape_sync HK.out z0 z1]; simp [-List.length_eq_zero_iff, Q0.out, Q1.out, Q2.out, Q3.out, Q4.out, Q5.out])
        go_wp2_with fail
        go_ret
        exact ⟨ret_bool HF.out.symm, HW.out.2.2⟩
set_option maxRecDepth 100000 in
set_option maxHeartbeats 1600000 in
theorem shape_b (w : World) (e : Ev) (v : Vs) (h : EvAt w e v) (hsm : e.rd.length ≤ 20000 ∧ e.wr.length ≤ 20000 ∧ e.fr.length ≤ 20000) (hg : 0 ≤ e.ag ∧ e.ag < 64 ∧ 1 ≤ e.kind ∧ e.kind ≤ 3) (hr : ¬ (0 ≤ e.blk ∧ e.blk < 16 ∧ 1 ≤ e.size ∧ e.size ≤ 8 ∧ 0 ≤ e.at_ ∧ e.at_ ≤ 256 - e.size)) :
 Calls Tryz.prog 139 #[evV e v] w (FPost (evShape e) w) := by
 obtain ⟨k1, k2, k3, t1, t2, t3⟩ := ev_facts h
 have n1 := Sl.run_len (P := Tryz.prog) h.rd IB.und 3
 have n2 := Sl.run_len (P := Tryz.prog) h.wr IB.und 3
 have n3 := h.fr.sl.run_len (P := Tryz.prog) II.und 3
 obtain ⟨m1, m2, m3⟩ := hsm
 have m1 : (e.rd.length : Int) ≤ 20000 := by omega
 have m2 : (e.wr.length : Int) ≤ 20000 := by omega
 have m3 : (e.fr.length : Int) ≤ 20000 := by omega
 obtain ⟨w0, hw0⟩ : ∃ w0, w0 = w.alloc (.cells (evArr e v) 116) := ⟨_, rfl⟩
 obtain ⟨g, hg⟩ : ∃ g, g = w.heap.size := ⟨_, rfl⟩
 have x0 : Ext w w0 := by rw [hw0]; exact (Mod.refl _ _).alloc _
 have b0 : REvBox w0 g e v := ⟨by rw [hw0, hg]; exact heap_alloc_new _ _⟩
 have KE : Hid (∀ w', Ext w0 w' → REvBox w' g e v ∧ EvAt w' e v) := Lib.hid fun w' x => ⟨b0.ext x, h.ext (x0.trans x)⟩
 have HW := Lib.hid (And.intro hw0 (And.intro hg x0))
 obtain ⟨c0, c1, c2, c3, c4, c5, c6, c7, c8, c9⟩ := b0.cells
 obtain ⟨B, hB⟩ : ∃ B, B = evShape e := ⟨_, rfl⟩
 rw [← hB]
 have HB := Lib.hid hB
 clear hw0 hg x0 b0 h hB
 unfold evV
 go_enter Tryz.func139, Tryz.ntmps139
 go_upto_region 1 with fail
 rw [← HW.out.1, ← HW.out.2.1]
 clear t1 t2 t3
 obtain ⟨z0, z1, z2, z3⟩ := hg
 have e0 : (e.kind == 0) = false := by rw [beq_eq_false_iff_ne]; omega
 have HF : Hid (B = false) := Lib.hid (by rw [HB.out]; exact evShape_rng (by omega) hr)
 rcases (by omega : e.blk < 0 ∨ (0 ≤ e.blk ∧ 16 ≤ e.blk) ∨ (0 ≤ e.blk ∧ e.blk < 16 ∧ e.size < 1) ∨ (0 ≤ e.blk ∧ e.blk < 16 ∧ 1 ≤ e.size ∧ 8 < e.size) ∨ (0 ≤ e.blk ∧ e.blk < 16 ∧ 1 ≤ e.size ∧ e.size ≤ 8 ∧ e.at_ < 0) ∨ (0 ≤ e.blk ∧ e.blk < 16 ∧ 1 ≤ e.size ∧ e.size ≤ 8 ∧ 0 ≤ e.at_ ∧ 256 - e.size < e.at_)) with y | ⟨y, y1⟩ | ⟨y, y1, y2⟩ | ⟨y, y1, y2, y3⟩ | ⟨y, y1, y2, y3, y4⟩ | ⟨y, y1, y2, y3, y4, y5⟩
 all_goals
  clear hr
  go_wp2_with fail
  go_ret
  exact ⟨ret_bool HF.out.symm, HW.out.2.2⟩
end Go.Proofs.YtbhocahmhmafmaaGreat
namespace Go.Proofs.YtbhocahmhmafmaaGreat
open Go.Ren Go.RowKit
set_option linter.unusedVariables false
set_option maxRecDepth 100000 in
set_option maxHeartbeats 1600000 in
theorem shape_1 (w : World) (e : Ev) (v : Vs) (h : EvAt w e v) (hsm : e.rd.length ≤ 20000 ∧ e.wr.length ≤ 20000 ∧ e.fr.length ≤ 20000) (hg : 0 ≤ e.ag ∧ e.ag < 64) (z4 : e.kind = 1) (hr : 0 ≤ e.blk ∧ e.blk < 16 ∧ 1 ≤ e.size ∧ e.size ≤ 8 ∧ 0 ≤ e.at_ ∧ e.at_ ≤ 256 - e.size) :
 Calls Tryz.prog 139 #[evV e v] w (FPost (evShape e) w) := by
 obtain ⟨k1, k2, k3, t1, t2, t3⟩ := ev_facts h
 have n1 := Sl.run_len (P := Tryz.prog) h.rd IB.und 3
 have n2 := Sl.run_len (P := Tryz.prog) h.wr IB.und 3
 have n3 := h.fr.sl.run_len (P := Tryz.prog) II.und 3
 obtain ⟨m1, m2, m3⟩ := hsm
 have m1 : (e.rd.length : Int) ≤ 20000 := by omega
 have m2 : (e.wr.length : Int) ≤ 20000 := by omega
 have m3 : (e.fr.length : Int) ≤ 20000 := by omega
 obtain ⟨w0, hw0⟩ : ∃ w0, w0 = w.alloc (.cells (evArr e v) 116) := ⟨_, rfl⟩
 obtain ⟨g, hg⟩ : ∃ g, g = w.heap.size := ⟨_, rfl⟩
 have x0 : Ext w w0 := by rw [hw0]; exact (Mod.refl _ _).alloc _
 have b0 : REvBox w0 g e v := ⟨by rw [hw0, hg]; exact heap_alloc_new _ _⟩
 have KE : Hid (∀ w', Ext w0 w' → REvBox w' g e v ∧ EvAt w' e v) := Lib.hid fun w' x => ⟨b0.ext x, h.ext (x0.trans x)⟩
 have HW := Lib.hid (And.intro hw0 (And.intro hg x0))
 obtain ⟨c0, c1, c2, c3, c4, c5, c6, c7, c8, c9⟩ := b0.cells
 obtain ⟨B, hB⟩ : ∃ B, B = evShape e := ⟨_, rfl⟩
 rw [← hB]
 have HB := Lib.hid hB
 clear hw0 hg x0 b0 h hB
 unfold evV
 have HZ4 := Lib.hid z4
 clear z4
 go_enter Tryz.func139, Tryz.ntmps139
 go_upto_region 1 with fail
 rw [← HW.out.1, ← HW.out.2.1]
 clear t1 t2 t3
 have z4 := HZ4.out
 obtain ⟨z0, z1⟩ := hg
 have z2 : 0 ≤ e.kind := by omega
 have z3 : e.kind ≤ 3 := by omega
 have e0 : (e.kind == 0) = false := by rw [beq_eq_false_iff_ne]; omega
 have hk : True := trivial
 have r1 : rdsB e = true := by unfold rdsB; rw [z4]; rfl
 have r2 : wrsB e = false := by unfold wrsB; rw [z4]; rfl
 have y3 : (e.kind != 3) = true := by rw [z4]; rfl
 have HR := Lib.hid (And.intro r1 r2)
 have HK := Lib.hid z4
 clear r1 r2 z4 hk
 have HZ := Lib.hid hr
 obtain ⟨y, y1, y2, y4, y5, y6⟩ := hr
 by_cases q0 : (e.rd.length : Int) = e.size
 case neg =>
  have HF : Hid (B = false) := Lib.hid (by rw [HB.out]; cases hb : evShape e with | false => rfl | true => exfalso; rw [evShape_good (by have := HK.out; omega) z0 z1 HZ.out, HR.out.1, HR.out.2, HK.out] at hb; simp [-List.length_eq_zero_iff] at hb; omega)
  have b0 : ((e.rd.length : Int) == e.size) = false := by simpa using q0
  clear q0
  go_wp2_with fail
  refine (rreads_any _ e v (KE.out _ (Mod.refl _ _)).2).mono ?_
  rintro r w1 ⟨rfl, x1⟩
  rw [HR.out.1]
  clear c0 c1 c2 c3 c4 c5 c6 c7 c8 c9
  obtain ⟨c0, c1, c2, c3, c4, c5, c6, c7, c8, c9⟩ := (KE.out _ x1).1.cells
  go_wp2_with fail
  refine (rwrites_any _ e v (KE.out _ x1).2).mono ?_
  rintro r w2 ⟨rfl, x2⟩
  rw [HR.out.2]
  clear c0 c1 c2 c3 c4 c5 c6 c7 c8 c9
  obtain ⟨c0, c1, c2, c3, c4, c5, c6, c7, c8, c9⟩ := (KE.out _ (x1.trans x2)).1.cells
  go_wp2_with fail
  go_ret
  exact ⟨ret_bool HF.out.symm, HW.out.2.2.trans (x1.trans x2)⟩
 case pos =>
  have b0 : ((e.rd.length : Int) == e.size) = true := by simpa using q0
  have Q0 := Lib.hid q0
  clear q0
  by_cases q1 : (e.fr.length : Int) = e.size
  case neg =>
   have HF : Hid (B = false) := Lib.hid (by rw [HB.out]; cases hb : evShape e with | false => rfl | true => exfalso; rw [evShape_good (by have := HK.out; omega) z0 z1 HZ.out, HR.out.1, HR.out.2, HK.out] at hb; simp [-List.length_eq_zero_iff] at hb; omega)
   have b1 : ((e.fr.length : Int) == e.size) = false := by simpa using q1
   clear q1
   go_wp2_with fail
   refine (rreads_any _ e v (KE.out _ (Mod.refl _ _)).2).mono ?_
   rintro r w1 ⟨rfl, x1⟩
   rw [HR.out.1]
   clear c0 c1 c2 c3 c4 c5 c6 c7 c8 c9
   obtain ⟨c0, c1, c2, c3, c4, c5, c6, c7, c8, c9⟩ := (KE.out _ x1).1.cells
   go_wp2_with fail
   refine (rwrites_any _ e v (KE.out _ x1).2).mono ?_
   rintro r w2 ⟨rfl, x2⟩
   rw [HR.out.2]
   clear c0 c1 c2 c3 c4 c5 c6 c7 c8 c9
   obtain ⟨c0, c1, c2, c3, c4, c5, c6, c7, c8, c9⟩ := (KE.out _ (x1.trans x2)).1.cells
   go_wp2_with fail
   go_ret
   exact ⟨ret_bool HF.out.symm, HW.out.2.2.trans (x1.trans x2)⟩
  case pos =>
   have b1 : ((e.fr.length : Int) == e.size) = true := by simpa using q1
   have Q1 := Lib.hid q1
   clear q1
   by_cases q2 : (e.wr.length : Int) = 0
   case neg =>
    have HF : Hid (B = false) := Lib.hid (by rw [HB.out]; cases hb : evShape e with | false => rfl | true => exfalso; rw [evShape_good (by have := HK.out; omega) z0 z1 HZ.out, HR.out.1, HR.out.2, HK.out] at hb; simp [-List.length_eq_zero_iff] at hb; omega)
    have b2 : ((e.wr.length : Int) == 0) = false := by simpa using q2
    clear q2
    go_wp2_with fail
    refine (rreads_any _ e v (KE.out _ (Mod.refl _ _)).2).mono ?_
    rintro r w1 ⟨rfl, x1⟩
    rw [HR.out.1]
    clear c0 c1 c2 c3 c4 c5 c6 c7 c8 c9
    obtain ⟨c0, c1, c2, c3, c4, c5, c6, c7, c8, c9⟩ := (KE.out _ x1).1.cells
    go_wp2_with fail
    refine (rwrites_any _ e v (KE.out _ x1).2).mono ?_
    rintro r w2 ⟨rfl, x2⟩
    rw [HR.out.2]
    clear c0 c1 c2 c3 c4 c5 c6 c7 c8 c9
    obtain ⟨c0, c1, c2, c3, c4, c5, c6, c7, c8, c9⟩ := (KE.out _ (x1.trans x2)).1.cells
    go_wp2_with fail
    go_ret
    exact ⟨ret_bool HF.out.symm, HW.out.2.2.trans (x1.trans x2)⟩
   case pos =>
    have b2 : ((e.wr.length : Int) == 0) = true := by simpa using q2
    have Q2 := Lib.hid q2
    clear q2
    have HF : Hid (B = true) := Lib.hid (by rw [HB.out, evShape_good (by have := HK.out; omega) z0 z1 HZ.out, HR.out.1, HR.out.2, HK.out]; simp [-List.length_eq_zero_iff, Q0.out, Q1.out, Q2.out])
    go_wp2_with fail
    refine (rreads_any _ e v (KE.out _ (Mod.refl _ _)).2).mono ?_
    rintro r w1 ⟨rfl, x1⟩
    rw [HR.out.1]
    clear c0 c1 c2 c3 c4 c5 c6 c7 c8 c9
    obtain ⟨c0, c1, c2, c3, c4, c5, c6, c7, c8, c9⟩ := (KE.out _ x1).1.cells
    go_wp2_with fail
    refine (rwrites_any _ e v (KE.out _ x1).2).mono ?_
    rintro r w2 ⟨rfl, x2⟩
    rw [HR.out.2]
    clear c0 c1 c2 c3 c4 c5 c6 c7 c8 c9
    obtain ⟨c0, c1, c2, c3, c4, c5, c6, c7, c8, c9⟩ := (KE.out _ (x1.trans x2)).1.cells
    go_wp2_with fail
    go_ret
    exact ⟨ret_bool HF.out.symm, HW.out.2.2.trans (x1.trans x2)⟩
end Go.Proofs.YtbhocahmhmafmaaGreat
namespace Go.Proofs.YtbhocahmhmafmaaGreat
open Go.Ren Go.RowKit
set_option linter.unusedVariables false
set_option maxRecDepth 100000 in
set_option maxHeartbeats 1600000 in
theorem shape_2 (w : World) (e : Ev) (v : Vs) (h : EvAt w e v) (hsm : e.rd.length ≤ 20000 ∧ e.wr.length ≤ 20000 ∧ e.fr.length ≤ 20000) (hg : 0 ≤ e.ag ∧ e.ag < 64) (z4 : e.kind = 2) (hr : 0 ≤ e.blk ∧ e.blk < 16 ∧ 1 ≤ e.size ∧ e.size ≤ 8 ∧ 0 ≤ e.at_ ∧ e.at_ ≤ 256 - e.size) :
 Calls Tryz.prog 139 #[evV e v] w (FPost (evShape e) w) := by
 obtain ⟨k1, k2, k3, t1, t2, t3⟩ := ev_facts h
 have n1 := Sl.run_len (P := Tryz.prog) h.rd IB.und 3
 have n2 := Sl.run_len (P := Tryz.prog) h.wr IB.und 3
 have n3 := h.fr.sl.run_len (P := Tryz.prog) II.und 3
 obtain ⟨m1, m2, m3⟩ := hsm
 have m1 : (e.rd.length : Int) ≤ 20000 := by omega
 have m2 : (e.wr.length : Int) ≤ 20000 := by omega
 have m3 : (e.fr.length : Int) ≤ 20000 := by omega
 obtain ⟨w0, hw0⟩ : ∃ w0, w0 = w.alloc (.cells (evArr e v) 116) := ⟨_, rfl⟩
 obtain ⟨g, hg⟩ : ∃ g, g = w.heap.size := ⟨_, rfl⟩
 have x0 : Ext w w0 := by rw [hw0]; exact (Mod.refl _ _).alloc _
 have b0 : REvBox w0 g e v := ⟨by rw [hw0, hg]; exact heap_alloc_new _ _⟩
 have KE : Hid (∀ w', Ext w0 w' → REvBox w' g e v ∧ EvAt w' e v) := Lib.hid fun w' x => ⟨b0.ext x, h.ext (x0.trans x)⟩
 have HW := Lib.hid (And.intro hw0 (And.intro hg x0))
 obtain ⟨c0, c1, c2, c3, c4, c5, c6, c7, c8, c9⟩ := b0.cells
 obtain ⟨B, hB⟩ : ∃ B, B = evShape e := ⟨_, rfl⟩
 rw [← hB]
 have HB := Lib.hid hB
 clear hw0 hg x0 b0 h hB
 unfold evV
 have HZ4 := Lib.hid z4
 clear z4
 go_enter Tryz.func139, Tryz.ntmps139
 go_upto_region 1 with fail
 rw [← HW.out.1, ← HW.out.2.1]
 clear t1 t2 t3
 have z4 := HZ4.out
 obtain ⟨z0, z1⟩ := hg
 have z2 : 0 ≤ e.kind := by omega
 have z3 : e.kind ≤ 3 := by omega
 have e0 : (e.kind == 0) = false := by rw [beq_eq_false_iff_ne]; omega
 have hk : True := trivial
 have r1 : rdsB e = false := by unfold rdsB; rw [z4]; rfl
 have r2 : wrsB e = true := by unfold wrsB; rw [z4]; rfl
 have y3 : (e.kind != 3) = true := by rw [z4]; rfl
 have HR := Lib.hid (And.intro r1 r2)
 have HK := Lib.hid z4
 clear r1 r2 z4 hk
 have HZ := Lib.hid hr
 obtain ⟨y, y1, y2, y4, y5, y6⟩ := hr
 by_cases q0 : (e.rd.length : Int) = 0
 case neg =>
  have HF : Hid (B = false) := Lib.hid (by rw [HB.out]; cases hb : evShape e with | false => rfl | true => exfalso; rw [evShape_good (by have := HK.out; omega) z0 z1 HZ.out, HR.out.1, HR.out.2, HK.out] at hb; simp [-List.length_eq_zero_iff] at hb; omega)
  have b0 : ((e.rd.length : Int) == 0) = false := by simpa using q0
  clear q0
  go_wp2_with fail
  refine (rreads_any _ e v (KE.out _ (Mod.refl _ _)).2).mono ?_
  rintro r w1 ⟨rfl, x1⟩
  rw [HR.out.1]
  clear c0 c1 c2 c3 c4 c5 c6 c7 c8 c9
  obtain ⟨c0, c1, c2, c3, c4, c5, c6, c7, c8, c9⟩ := (KE.out _ x1).1.cells
  go_wp2_with fail
  refine (rwrites_any _ e v (KE.out _ x1).2).mono ?_
  rintro r w2 ⟨rfl, x2⟩
  rw [HR.out.2]
  clear c0 c1 c2 c3 c4 c5 c6 c7 c8 c9
  obtain ⟨c0, c1, c2, c3, c4, c5, c6, c7, c8, c9⟩ := (KE.out _ (x1.trans x2)).1.cells
  go_wp2_with fail
  go_ret
  exact ⟨ret_bool HF.out.symm, HW.out.2.2.trans (x1.trans x2)⟩
 case pos =>
  have b0 : ((e.rd.length : Int) == 0) = true := by simpa using q0
  have Q0 := Lib.hid q0
  clear q0
  by_cases q1 : (e.fr.length : Int) = 0
  case neg =>
   have HF : Hid (B = false) := Lib.hid (by rw [HB.out]; cases hb : evShape e with | false => rfl | true => exfalso; rw [evShape_good (by have := HK.out; omega) z0 z1 HZ.out, HR.out.1, HR.out.2, HK.out] at hb; simp [-List.length_eq_zero_iff] at hb; omega)
   have b1 : ((e.fr.length : Int) == 0) = false := by simpa using q1
   clear q1
   go_wp2_with fail
   refine (rreads_any _ e v (KE.out _ (Mod.refl _ _)).2).mono ?_
   rintro r w1 ⟨rfl, x1⟩
   rw [HR.out.1]
   clear c0 c1 c2 c3 c4 c5 c6 c7 c8 c9
   obtain ⟨c0, c1, c2, c3, c4, c5, c6, c7, c8, c9⟩ := (KE.out _ x1).1.cells
   go_wp2_with fail
   refine (rwrites_any _ e v (KE.out _ x1).2).mono ?_
   rintro r w2 ⟨rfl, x2⟩
   rw [HR.out.2]
   clear c0 c1 c2 c3 c4 c5 c6 c7 c8 c9
   obtain ⟨c0, c1, c2, c3, c4, c5, c6, c7, c8, c9⟩ := (KE.out _ (x1.trans x2)).1.cells
   go_wp2_with fail
   go_ret
   exact ⟨ret_bool HF.out.symm, HW.out.2.2.trans (x1.trans x2)⟩
  case pos =>
   have b1 : ((e.fr.length : Int) == 0) = true := by simpa using q1
   have Q1 := Lib.hid q1
   clear q1
   by_cases q2 : (e.wr.length : Int) = e.size
   case neg =>
    have HF : Hid (B = false) := Lib.hid (by rw [HB.out]; cases hb : evShape e with | false => rfl | true => exfalso; rw [evShape_good (by have := HK.out; omega) z0 z1 HZ.out, HR.out.1, HR.out.2, HK.out] at hb; simp [-List.length_eq_zero_iff] at hb; omega)
    have b2 : ((e.wr.length : Int) == e.size) = false := by simpa using q2
    clear q2
    go_wp2_with fail
    refine (rreads_any _ e v (KE.out _ (Mod.refl _ _)).2).mono ?_
    rintro r w1 ⟨rfl, x1⟩
    rw [HR.out.1]
    clear c0 c1 c2 c3 c4 c5 c6 c7 c8 c9
    obtain ⟨c0, c1, c2, c3, c4, c5, c6, c7, c8, c9⟩ := (KE.out _ x1).1.cells
    go_wp2_with fail
    refine (rwrites_any _ e v (KE.out _ x1).2).mono ?_
    rintro r w2 ⟨rfl, x2⟩
    rw [HR.out.2]
    clear c0 c1 c2 c3 c4 c5 c6 c7 c8 c9
    obtain ⟨c0, c1, c2, c3, c4, c5, c6, c7, c8, c9⟩ := (KE.out _ (x1.trans x2)).1.cells
    go_wp2_with fail
    go_ret
    exact ⟨ret_bool HF.out.symm, HW.out.2.2.trans (x1.trans x2)⟩
   case pos =>
    have b2 : ((e.wr.length : Int) == e.size) = true := by simpa using q2
    have Q2 := Lib.hid q2
    clear q2
    have HF : Hid (B = true) := Lib.hid (by rw [HB.out, evShape_good (by have := HK.out; omega) z0 z1 HZ.out, HR.out.1, HR.out.2, HK.out]; simp [-List.length_eq_zero_iff, Q0.out, Q1.out, Q2.out])
    go_wp2_with fail
    refine (rreads_any _ e v (KE.out _ (Mod.refl _ _)).2).mono ?_
    rintro r w1 ⟨rfl, x1⟩
    rw [HR.out.1]
    clear c0 c1 c2 c3 c4 c5 c6 c7 c8 c9
    obtain ⟨c0, c1, c2, c3, c4, c5, c6, c7, c8, c9⟩ := (KE.out _ x1).1.cells
    go_wp2_with fail
    refine (rwrites_any _ e v (KE.out _ x1).2).mono ?_
    rintro r w2 ⟨rfl, x2⟩
    rw [HR.out.2]
    clear c0 c1 c2 c3 c4 c5 c6 c7 c8 c9
    obtain ⟨c0, c1, c2, c3, c4, c5, c6, c7, c8, c9⟩ := (KE.out _ (x1.trans x2)).1.cells
    go_wp2_with fail
    go_ret
    exact ⟨ret_bool HF.out.symm, HW.out.2.2.trans (x1.trans x2)⟩
end Go.Proofs.YtbhocahmhmafmaaGreat
namespace Go.Proofs.YtbhocahmhmafmaaGreat
open Go.Ren Go.RowKit
set_option linter.unusedVariables false
set_option maxRecDepth 100000 in
set_option maxHeartbeats 1600000 in
theorem shape_3x (w : World) (ag blk at1 size : Int) (sq nt : Bool) (rd wr : List UInt8) (fr : List Int) (v : Vs) (h : EvAt w ⟨ag, 3, sq, nt, blk, at1, size, rd, wr, fr⟩ v) (hsm : rd.length ≤ 20000 ∧ wr.length ≤ 20000 ∧ fr.length ≤ 20000) (hg : 0 ≤ ag ∧ ag < 64) (hr : 0 ≤ blk ∧ blk < 16 ∧ 1 ≤ size ∧ size ≤ 8 ∧ 0 ≤ at1 ∧ at1 ≤ 256 - size) :
 Calls Tryz.prog 139 #[evV ⟨ag, 3, sq, nt, blk, at1, size, rd, wr, fr⟩ v] w (FPost (evShape ⟨ag, 3, sq, nt, blk, at1, size, rd, wr, fr⟩) w) := by
 obtain ⟨k1, k2, k3, t1, t2, t3⟩ := ev_facts h
 have n1 := Sl.run_len (P := Tryz.prog) h.rd IB.und 3
 have n2 := Sl.run_len (P := Tryz.prog) h.wr IB.und 3
 have n3 := h.fr.sl.run_len (P := Tryz.prog) II.und 3
 dsimp only at n1 n2 n3
 obtain ⟨m1, m2, m3⟩ := hsm
 have m1 : (rd.length : Int) ≤ 20000 := by omega
 have m2 : (wr.length : Int) ≤ 20000 := by omega
 have m3 : (fr.length : Int) ≤ 20000 := by omega
 obtain ⟨w0, hw0⟩ : ∃ w0, w0 = w.alloc (.cells (evArr ⟨ag, 3, sq, nt, blk, at1, size, rd, wr, fr⟩ v) 116) := ⟨_, rfl⟩
 obtain ⟨g, hg'⟩ : ∃ g, g = w.heap.size := ⟨_, rfl⟩
 have x0 : Ext w w0 := by rw [hw0]; exact (Mod.refl _ _).alloc _
 have b0 : REvBox w0 g ⟨ag, 3, sq, nt, blk, at1, size, rd, wr, fr⟩ v := ⟨by rw [hw0, hg']; exact heap_alloc_new _ _⟩
 have KC : Hid (∀ w', Ext w0 w' → w'.cell? ⟨g, 0, none⟩ = some (.int .i64 ag) ∧ w'.cell? ⟨g, 1, none⟩ = some (.int .i64 3) ∧ w'.cell? ⟨g, 2, none⟩ = some (.bool sq) ∧ w'.cell? ⟨g, 3, none⟩ = some (.bool nt) ∧ w'.cell? ⟨g, 4, none⟩ = some (.int .i64 blk) ∧ w'.cell? ⟨g, 5, none⟩ = some (.int .i64 at1) ∧ w'.cell? ⟨g, 6, none⟩ = some (.int .i64 size) ∧ w'.cell? ⟨g, 7, none⟩ = some v.r ∧ w'.cell? ⟨g, 8, none⟩ = some v.w ∧ w'.cell? ⟨g, 9, none⟩ = some v.f) := Lib.hid fun w' x => (b0.ext x).cells
 have KV : Hid (∀ w', Ext w0 w' → EvAt w' ⟨ag, 3, sq, nt, blk, at1, size, rd, wr, fr⟩ v) := Lib.hid fun w' x => h.ext (x0.trans x)
 have HW := Lib.hid (And.intro hw0 (And.intro hg' x0))
 obtain ⟨c0, c1, c2, c3, c4, c5, c6, c7, c8, c9⟩ := KC.out _ (Mod.refl _ _)
 obtain ⟨B, hB⟩ : ∃ B, B = evShape ⟨ag, 3, sq, nt, blk, at1, size, rd, wr, fr⟩ := ⟨_, rfl⟩
 rw [← hB]
 have HB : Hid (B = ((sq && nt) && decide ((rd.length : Int) = size ∧ (fr.length : Int) = size ∧ (wr.length : Int) = size))) := Lib.hid (by
  rw [hB, evShape_good (show (1 : Int) ≤ 3 ∧ (3 : Int) ≤ 3 by decide) hg.1 hg.2 hr]
  show ((decide ((3 : Int) ≠ 3) || sq && nt) && decide ((rd.length : Int) = size ∧ (fr.length : Int) = size ∧ (wr.length : Int) = size)) = _
  simp)
 clear hw0 hg' x0 b0 h hB
 unfold evV
 dsimp only
 go_enter Tryz.func139, Tryz.ntmps139
 go_upto_region 1 with fail
 rw [show w.alloc (.cells #[.int .i64 ag, .int .i64 3, .bool sq, .bool nt, .int .i64 blk, .int .i64 at1, .int .i64 size, v.r, v.w, v.f] 116) = w0 from HW.out.1.symm, ← HW.out.2.1]
 clear t1 t2 t3
 obtain ⟨z0, z1⟩ := hg
 obtain ⟨y, y1, y2, y4, y5, y6⟩ := hr
 by_cases q0 : (rd.length : Int) = size
 case neg =>
  have b0 : ((rd.length : Int) == size) = false := by simpa using q0
  have HF : Hid (B = false) := Lib.hid (by rw [HB.out, decide_eq_false (fun k => q0 k.1), Bool.and_false])
  clear q0
  go_wp2_with fail
  refine (rreads_any _ ⟨ag, 3, sq, nt, blk, at1, size, rd, wr, fr⟩ v (KV.out _ (Mod.refl _ _))).mono ?_
  rintro r w1 ⟨rfl, x1⟩
  rw [show rdsB ⟨ag, 3, sq, nt, blk, at1, size, rd, wr, fr⟩ = true from rfl]
  clear c0 c1 c2 c3 c4 c5 c6 c7 c8 c9
  obtain ⟨c0, c1, c2, c3, c4, c5, c6, c7, c8, c9⟩ := KC.out _ x1
  go_wp2_with fail
  refine (rwrites_any _ ⟨ag, 3, sq, nt, blk, at1, size, rd, wr, fr⟩ v (KV.out _ x1)).mono ?_
  rintro r w2 ⟨rfl, x2⟩
  rw [show wrsB ⟨ag, 3, sq, nt, blk, at1, size, rd, wr, fr⟩ = true from rfl]
  clear c0 c1 c2 c3 c4 c5 c6 c7 c8 c9
  obtain ⟨c0, c1, c2, c3, c4, c5, c6, c7, c8, c9⟩ := KC.out _ (x1.trans x2)
  go_wp2_with fail
  go_ret
  exact ⟨ret_bool HF.out.symm, HW.out.2.2.trans (x1.trans x2)⟩
 case pos =>
  have b0 : ((rd.length : Int) == size) = true := by simpa using q0
  have Q0 := Lib.hid q0
  clear q0
  by_cases q1 : (fr.length : Int) = size
  case neg =>
   have b1 : ((fr.length : Int) == size) = false := by simpa using q1
   have HF : Hid (B = false) := Lib.hid (by rw [HB.out, decide_eq_false (fun k => q1 k.2.1), Bool.and_false])
   clear q1
   go_wp2_with fail
   refine (rreads_any _ ⟨ag, 3, sq, nt, blk, at1, size, rd, wr, fr⟩ v (KV.out _ (Mod.refl _ _))).mono ?_
   rintro r w1 ⟨rfl, x1⟩
   rw [show rdsB ⟨ag, 3, sq, nt, blk, at1, size, rd, wr, fr⟩ = true from rfl]
   clear c0 c1 c2 c3 c4 c5 c6 c7 c8 c9
   obtain ⟨c0, c1, c2, c3, c4, c5, c6, c7, c8, c9⟩ := KC.out _ x1
   go_wp2_with fail
   refine (rwrites_any _ ⟨ag, 3, sq, nt, blk, at1, size, rd, wr, fr⟩ v (KV.out _ x1)).mono ?_
   rintro r w2 ⟨rfl, x2⟩
   rw [show wrsB ⟨ag, 3, sq, nt, blk, at1, size, rd, wr, fr⟩ = true from rfl]
   clear c0 c1 c2 c3 c4 c5 c6 c7 c8 c9
   obtain ⟨c0, c1, c2, c3, c4, c5, c6, c7, c8, c9⟩ := KC.out _ (x1.trans x2)
   go_wp2_with fail
   go_ret
   exact ⟨ret_bool HF.out.symm, HW.out.2.2.trans (x1.trans x2)⟩
  case pos =>
   have b1 : ((fr.length : Int) == size) = true := by simpa using q1
   have Q1 := Lib.hid q1
   clear q1
   by_cases q2 : (wr.length : Int) = size
   case neg =>
    have b2 : ((wr.length : Int) == size) = false := by simpa using q2
    have HF : Hid (B = false) := Lib.hid (by rw [HB.out, decide_eq_false (fun k => q2 k.2.2), Bool.and_false])
    clear q2
    go_wp2_with fail
    refine (rreads_any _ ⟨ag, 3, sq, nt, blk, at1, size, rd, wr, fr⟩ v (KV.out _ (Mod.refl _ _))).mono ?_
    rintro r w1 ⟨rfl, x1⟩
    rw [show rdsB ⟨ag, 3, sq, nt, blk, at1, size, rd, wr, fr⟩ = true from rfl]
    clear c0 c1 c2 c3 c4 c5 c6 c7 c8 c9
    obtain ⟨c0, c1, c2, c3, c4, c5, c6, c7, c8, c9⟩ := KC.out _ x1
    go_wp2_with fail
    refine (rwrites_any _ ⟨ag, 3, sq, nt, blk, at1, size, rd, wr, fr⟩ v (KV.out _ x1)).mono ?_
    rintro r w2 ⟨rfl, x2⟩
    rw [show wrsB ⟨ag, 3, sq, nt, blk, at1, size, rd, wr, fr⟩ = true from rfl]
    clear c0 c1 c2 c3 c4 c5 c6 c7 c8 c9
    obtain ⟨c0, c1, c2, c3, c4, c5, c6, c7, c8, c9⟩ := KC.out _ (x1.trans x2)
    go_wp2_with fail
    go_ret
    exact ⟨ret_bool HF.out.symm, HW.out.2.2.trans (x1.trans x2)⟩
   case pos =>
    have b2 : ((wr.length : Int) == size) = true := by simpa using q2
    have Q2 := Lib.hid q2
    clear q2
    have HBB : Hid (B = (sq && nt)) := Lib.hid (by rw [HB.out, decide_eq_true (And.intro Q0.out (And.intro Q1.out Q2.out)), Bool.and_true])
    cases sq with
    | false =>
     have HF : Hid (B = false) := Lib.hid HBB.out
     go_wp2_with fail
     refine (rreads_any _ ⟨ag, 3, false, nt, blk, at1, size, rd, wr, fr⟩ v (KV.out _ (Mod.refl _ _))).mono ?_
     rintro r w1 ⟨rfl, x1⟩
     rw [show rdsB ⟨ag, 3, false, nt, blk, at1, size, rd, wr, fr⟩ = true from rfl]
     clear c0 c1 c2 c3 c4 c5 c6 c7 c8 c9
     obtain ⟨c0, c1, c2, c3, c4, c5, c6, c7, c8, c9⟩ := KC.out _ x1
     go_wp2_with fail
     refine (rwrites_any _ ⟨ag, 3, false, nt, blk, at1, size, rd, wr, fr⟩ v (KV.out _ x1)).mono ?_
     rintro r w2 ⟨rfl, x2⟩
     rw [show wrsB ⟨ag, 3, false, nt, blk, at1, size, rd, wr, fr⟩ = true from rfl]
     clear c0 c1 c2 c3 c4 c5 c6 c7 c8 c9
     obtain ⟨c0, c1, c2, c3, c4, c5, c6, c7, c8, c9⟩ := KC.out _ (x1.trans x2)
     go_wp2_with fail
     go_ret
     exact ⟨ret_bool HF.out.symm, HW.out.2.2.trans (x1.trans x2)⟩
    | true =>
     cases nt with
     | false =>
      have HF : Hid (B = false) := Lib.hid HBB.out
      go_wp2_with fail
      refine (rreads_any _ ⟨ag, 3, true, false, blk, at1, size, rd, wr, fr⟩ v (KV.out _ (Mod.refl _ _))).mono ?_
      rintro r w1 ⟨rfl, x1⟩
      rw [show rdsB ⟨ag, 3, true, false, blk, at1, size, rd, wr, fr⟩ = true from rfl]
      clear c0 c1 c2 c3 c4 c5 c6 c7 c8 c9
      obtain ⟨c0, c1, c2, c3, c4, c5, c6, c7, c8, c9⟩ := KC.out _ x1
      go_wp2_with fail
      refine (rwrites_any _ ⟨ag, 3, true, false, blk, at1, size, rd, wr, fr⟩ v (KV.out _ x1)).mono ?_
      rintro r w2 ⟨rfl, x2⟩
      rw [show wrsB ⟨ag, 3, true, false, blk, at1, size, rd, wr, fr⟩ = true from rfl]
      clear c0 c1 c2 c3 c4 c5 c6 c7 c8 c9
      obtain ⟨c0, c1, c2, c3, c4, c5, c6, c7, c8, c9⟩ := KC.out _ (x1.trans x2)
      go_wp2_with fail
      go_ret
      exact ⟨ret_bool HF.out.symm, HW.out.2.2.trans (x1.trans x2)⟩
     | true =>
      have HF : Hid (B = true) := Lib.hid HBB.out
      go_wp2_with fail
      refine (rreads_any _ ⟨ag, 3, true, true, blk, at1, size, rd, wr, fr⟩ v (KV.out _ (Mod.refl _ _))).mono ?_
      rintro r w1 ⟨rfl, x1⟩
      rw [show rdsB ⟨ag, 3, true, true, blk, at1, size, rd, wr, fr⟩ = true from rfl]
      clear c0 c1 c2 c3 c4 c5 c6 c7 c8 c9
      obtain ⟨c0, c1, c2, c3, c4, c5, c6, c7, c8, c9⟩ := KC.out _ x1
      go_wp2_with fail
      refine (rwrites_any _ ⟨ag, 3, true, true, blk, at1, size, rd, wr, fr⟩ v (KV.out _ x1)).mono ?_
      rintro r w2 ⟨rfl, x2⟩
      rw [show wrsB ⟨ag, 3, true, true, blk, at1, size, rd, wr, fr⟩ = true from rfl]
      clear c0 c1 c2 c3 c4 c5 c6 c7 c8 c9
      obtain ⟨c0, c1, c2, c3, c4, c5, c6, c7, c8, c9⟩ := KC.out _ (x1.trans x2)
      go_wp2_with fail
      go_ret
      exact ⟨ret_bool HF.out.symm, HW.out.2.2.trans (x1.trans x2)⟩
theorem shape_3 (w : World) (e : Ev) (v : Vs) (h : EvAt w e v) (hsm : e.rd.length ≤ 20000 ∧ e.wr.length ≤ 20000 ∧ e.fr.length ≤ 20000) (hg : 0 ≤ e.ag ∧ e.ag < 64) (z4 : e.kind = 3) (hr : 0 ≤ e.blk ∧ e.blk < 16 ∧ 1 ≤ e.size ∧ e.size ≤ 8 ∧ 0 ≤ e.at_ ∧ e.at_ ≤ 256 - e.size) :
 Calls Tryz.prog 139 #[evV e v] w (FPost (evShape e) w) := by
 obtain ⟨ag, kind, sq, nt, blk, at1, size, rd, wr, fr⟩ := e
 dsimp only at z4
 subst z4
 exact shape_3x w ag blk at1 size sq nt rd wr fr v h hsm hg hr
end Go.Proofs.YtbhocahmhmafmaaGreat
namespace Go.Proofs.YtbhocahmhmafmaaGreat
open Go.Ren Go.RowKit
set_option linter.unusedVariables false
theorem shape_any (w : World) (e : Ev) (v : Vs) (h : EvAt w e v) (hsm : e.rd.length ≤ 20000 ∧ e.wr.length ≤ 20000 ∧ e.fr.length ≤ 20000) :
 Calls Tryz.prog 139 #[evV e v] w (FPost (evShape e) w) := by
 by_cases hg : 0 ≤ e.ag ∧ e.ag < 64 ∧ 1 ≤ e.kind ∧ e.kind ≤ 3
 · by_cases hr : 0 ≤ e.blk ∧ e.blk < 16 ∧ 1 ≤ e.size ∧ e.size ≤ 8 ∧ 0 ≤ e.at_ ∧ e.at_ ≤ 256 - e.size
   · rcases (by omega : e.kind = 1 ∨ e.kind = 2 ∨ e.kind = 3) with z | z | z
     · exact shape_1 w e v h hsm ⟨hg.1, hg.2.1⟩ z hr
     · exact shape_2 w e v h hsm ⟨hg.1, hg.2.1⟩ z hr
     · exact shape_3 w e v h hsm ⟨hg.1, hg.2.1⟩ z hr
   · exact shape_b w e v h hsm hg hr
 · exact shape_a w e v h hsm hg
end Go.Proofs.YtbhocahmhmafmaaGreat
