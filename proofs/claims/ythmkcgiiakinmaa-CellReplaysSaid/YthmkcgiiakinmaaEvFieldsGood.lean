/-
  The contract of event.fields where a range is right. No condition.
-/
import Derived.Test.YthmkcgiiakinmaaEvFields
namespace Go.Proofs.Ythmkcgiiakinmaa
open Go.Ren Go.RowKit
set_option linter.unusedVariables false

set_option maxRecDepth 100000 in
set_option maxHeartbeats 400000 in
theorem fields_good1 (w : World) (e : Ev) (v : Vs) (h : EvAt w e v) (hk : Kr e) (hb : 0 ≤ e.blk ∧ e.blk < 16 ∧ 1 ≤ e.size ∧ e.size ≤ 8 ∧ 0 ≤ e.at_ ∧ e.at_ ≤ 256 - e.size) (q1 : e.kind = 1) (r1 : rdsB e = true) (r2 : wrsB e = false) : Calls Try.prog 65 #[evV e v] w (FPost (evFields e) w) := by
  obtain ⟨k1, k2, k3, t1, t2, t3⟩ := ev_facts h
  have l1 := Sl.run_len (P := Try.prog) h.rd IB.und 3
  have l2 := Sl.run_len (P := Try.prog) h.wr IB.und 3
  have l3 := h.fr.sl.run_len (P := Try.prog) II.und 3
  obtain ⟨w0, g, hw⟩ := FBox.mk' w e v
  obtain ⟨c0, c1, c2, c3, c4, c5, c6, c7, c8, c9⟩ := hw.b.cells
  have KEY : Hid (∀ w', Ext w0 w' → EvAt w' e v ∧ EvBox w' g e v) := Lib.hid fun w' x => ⟨h.ext (hw.x.trans x), hw.b.ext x⟩
  have hd : decide (0 ≤ e.blk ∧ e.blk < 16 ∧ 1 ≤ e.size ∧ e.size ≤ 8 ∧ 0 ≤ e.at_ ∧ e.at_ ≤ 256 - e.size) = true := by simpa using hb
  rw [evFields_kr hk, hd, Bool.true_and]
  clear hd h hk
  obtain ⟨b1, b2, b3, b4, b5, b6⟩ := hb
  have b7 : ¬ 256 - e.size < e.at_ := by omega
  unfold evV
  have n1 : (e.kind == 1) = true := by simpa using q1
  have n0 : (e.kind == 0) = false := by simp [q1]
  rw [r1, r2]
  obtain ⟨B, hB⟩ : ∃ B, B = decide ((e.rd.length : Int) = (if rdsB e then e.size else 0) ∧ (e.fr.length : Int) = (if rdsB e then e.size else 0) ∧ (e.wr.length : Int) = (if wrsB e then e.size else 0)) := ⟨_, rfl⟩
  rw [r1, r2] at hB
  rw [← hB]
  have HB := Lib.hid hB
  have R := Lib.hid (And.intro r1 r2)
  clear hB
  clear q1 r1 r2
  go_enter Try.func65, Try.ntmps65
  go_upto_region 1 with fail
  rw [← hw.e0, ← hw.eg]
  clear t1 t2 t3 k1 k2 k3
  go_upto_region 13 with fail
  go_wp2_with fail
  refine (reads_any _ e v (KEY.out _ (Mod.refl _ _)).1).mono ?_
  rintro r w1 ⟨rfl, x1⟩
  rw [R.out.1]
  clear c0 c1 c2 c3 c4 c5 c6 c7 c8 c9
  obtain ⟨d0, d1, d2, d3, d4, d5, d6, d7, d8, d9⟩ := (KEY.out _ x1).2.cells
  go_wp2_with fail
  refine (writes_any _ e v (KEY.out _ x1).1).mono ?_
  rintro r w2 ⟨rfl, x2⟩
  rw [R.out.2]
  clear d0 d1 d2 d3 d4 d5 d6 d7 d8 d9
  obtain ⟨e0, e1, e2, e3, e4, e5, e6, e7, e8, e9⟩ := (KEY.out _ (x1.trans x2)).2.cells
  go_wp2_with fail
  all_goals
    go_ret
    refine ⟨ret_bool ?_, (hw.x.trans x1).trans x2⟩
    rw [HB.out, Bool.eq_iff_iff]
    clear l1 l2 l3 e0 e1 e2 e3 e4 e5 e6 e7 e8 e9
    simp
    try first | omega | (simp_all; done)

set_option maxRecDepth 100000 in
set_option maxHeartbeats 400000 in
theorem fields_good2 (w : World) (e : Ev) (v : Vs) (h : EvAt w e v) (hk : Kr e) (hb : 0 ≤ e.blk ∧ e.blk < 16 ∧ 1 ≤ e.size ∧ e.size ≤ 8 ∧ 0 ≤ e.at_ ∧ e.at_ ≤ 256 - e.size) (q1 : e.kind = 2) (r1 : rdsB e = false) (r2 : wrsB e = true) : Calls Try.prog 65 #[evV e v] w (FPost (evFields e) w) := by
  obtain ⟨k1, k2, k3, t1, t2, t3⟩ := ev_facts h
  have l1 := Sl.run_len (P := Try.prog) h.rd IB.und 3
  have l2 := Sl.run_len (P := Try.prog) h.wr IB.und 3
  have l3 := h.fr.sl.run_len (P := Try.prog) II.und 3
  obtain ⟨w0, g, hw⟩ := FBox.mk' w e v
  obtain ⟨c0, c1, c2, c3, c4, c5, c6, c7, c8, c9⟩ := hw.b.cells
  have KEY : Hid (∀ w', Ext w0 w' → EvAt w' e v ∧ EvBox w' g e v) := Lib.hid fun w' x => ⟨h.ext (hw.x.trans x), hw.b.ext x⟩
  have hd : decide (0 ≤ e.blk ∧ e.blk < 16 ∧ 1 ≤ e.size ∧ e.size ≤ 8 ∧ 0 ≤ e.at_ ∧ e.at_ ≤ 256 - e.size) = true := by simpa using hb
  rw [evFields_kr hk, hd, Bool.true_and]
  clear hd h hk
  obtain ⟨b1, b2, b3, b4, b5, b6⟩ := hb
  have b7 : ¬ 256 - e.size < e.at_ := by omega
  unfold evV
  have n1 : (e.kind == 1) = false := by simp [q1]
  have n1' : ¬ e.kind = 1 := by omega
  have n2 : (e.kind == 2) = true := by simpa using q1
  have n0 : (e.kind == 0) = false := by simp [q1]
  rw [r1, r2]
  obtain ⟨B, hB⟩ : ∃ B, B = decide ((e.rd.length : Int) = (if rdsB e then e.size else 0) ∧ (e.fr.length : Int) = (if rdsB e then e.size else 0) ∧ (e.wr.length : Int) = (if wrsB e then e.size else 0)) := ⟨_, rfl⟩
  rw [r1, r2] at hB
  rw [← hB]
  have HB := Lib.hid hB
  have R := Lib.hid (And.intro r1 r2)
  clear hB
  clear q1 r1 r2
  go_enter Try.func65, Try.ntmps65
  go_upto_region 1 with fail
  rw [← hw.e0, ← hw.eg]
  clear t1 t2 t3 k1 k2 k3
  go_upto_region 13 with fail
  go_wp2_with fail
  refine (reads_any _ e v (KEY.out _ (Mod.refl _ _)).1).mono ?_
  rintro r w1 ⟨rfl, x1⟩
  rw [R.out.1]
  clear c0 c1 c2 c3 c4 c5 c6 c7 c8 c9
  obtain ⟨d0, d1, d2, d3, d4, d5, d6, d7, d8, d9⟩ := (KEY.out _ x1).2.cells
  go_wp2_with fail
  refine (writes_any _ e v (KEY.out _ x1).1).mono ?_
  rintro r w2 ⟨rfl, x2⟩
  rw [R.out.2]
  clear d0 d1 d2 d3 d4 d5 d6 d7 d8 d9
  obtain ⟨e0, e1, e2, e3, e4, e5, e6, e7, e8, e9⟩ := (KEY.out _ (x1.trans x2)).2.cells
  go_wp2_with fail
  all_goals
    go_ret
    refine ⟨ret_bool ?_, (hw.x.trans x1).trans x2⟩
    rw [HB.out, Bool.eq_iff_iff]
    clear l1 l2 l3 e0 e1 e2 e3 e4 e5 e6 e7 e8 e9
    simp
    try first | omega | (simp_all; done)

set_option maxRecDepth 100000 in
set_option maxHeartbeats 400000 in
theorem fields_good3 (w : World) (e : Ev) (v : Vs) (h : EvAt w e v) (hk : Kr e) (hb : 0 ≤ e.blk ∧ e.blk < 16 ∧ 1 ≤ e.size ∧ e.size ≤ 8 ∧ 0 ≤ e.at_ ∧ e.at_ ≤ 256 - e.size) (q1 : e.kind = 3) (r1 : rdsB e = true) (r2 : wrsB e = true) (r3 : e.seq = true) (r4 : e.nt = true) : Calls Try.prog 65 #[evV e v] w (FPost (evFields e) w) := by
  obtain ⟨k1, k2, k3, t1, t2, t3⟩ := ev_facts h
  have l1 := Sl.run_len (P := Try.prog) h.rd IB.und 3
  have l2 := Sl.run_len (P := Try.prog) h.wr IB.und 3
  have l3 := h.fr.sl.run_len (P := Try.prog) II.und 3
  obtain ⟨w0, g, hw⟩ := FBox.mk' w e v
  obtain ⟨c0, c1, c2, c3, c4, c5, c6, c7, c8, c9⟩ := hw.b.cells
  have KEY : Hid (∀ w', Ext w0 w' → EvAt w' e v ∧ EvBox w' g e v) := Lib.hid fun w' x => ⟨h.ext (hw.x.trans x), hw.b.ext x⟩
  have hd : decide (0 ≤ e.blk ∧ e.blk < 16 ∧ 1 ≤ e.size ∧ e.size ≤ 8 ∧ 0 ≤ e.at_ ∧ e.at_ ≤ 256 - e.size) = true := by simpa using hb
  rw [evFields_kr hk, hd, Bool.true_and]
  clear hd h hk
  obtain ⟨b1, b2, b3, b4, b5, b6⟩ := hb
  have b7 : ¬ 256 - e.size < e.at_ := by omega
  unfold evV
  have n1 : (e.kind == 1) = false := by simp [q1]
  have n1' : ¬ e.kind = 1 := by omega
  have n2 : (e.kind == 2) = false := by simp [q1]
  have n2' : ¬ e.kind = 2 := by omega
  have n3 : (e.kind == 3) = true := by simpa using q1
  rw [r3] at c2
  rw [r4] at c3
  have R3 := Lib.hid (And.intro r3 r4)
  clear r3 r4
  have n0 : (e.kind == 0) = false := by simp [q1]
  rw [r1, r2]
  obtain ⟨B, hB⟩ : ∃ B, B = decide ((e.rd.length : Int) = (if rdsB e then e.size else 0) ∧ (e.fr.length : Int) = (if rdsB e then e.size else 0) ∧ (e.wr.length : Int) = (if wrsB e then e.size else 0)) := ⟨_, rfl⟩
  rw [r1, r2] at hB
  rw [← hB]
  have HB := Lib.hid hB
  have R := Lib.hid (And.intro r1 r2)
  clear hB
  clear q1 r1 r2
  go_enter Try.func65, Try.ntmps65
  go_upto_region 1 with fail
  rw [← hw.e0, ← hw.eg]
  clear t1 t2 t3 k1 k2 k3
  go_upto_region 13 with fail
  clear c0 c1 c2 c3 c4 c5 c6 c7 c8 c9
  obtain ⟨c0, c1, c2, c3, c4, c5, c6, c7, c8, c9⟩ := hw.b.cells
  go_wp2_with fail
  refine (reads_any _ e v (KEY.out _ (Mod.refl _ _)).1).mono ?_
  rintro r w1 ⟨rfl, x1⟩
  rw [R.out.1]
  clear c0 c1 c2 c3 c4 c5 c6 c7 c8 c9
  obtain ⟨d0, d1, d2, d3, d4, d5, d6, d7, d8, d9⟩ := (KEY.out _ x1).2.cells
  go_wp2_with fail
  refine (writes_any _ e v (KEY.out _ x1).1).mono ?_
  rintro r w2 ⟨rfl, x2⟩
  rw [R.out.2]
  clear d0 d1 d2 d3 d4 d5 d6 d7 d8 d9
  obtain ⟨e0, e1, e2, e3, e4, e5, e6, e7, e8, e9⟩ := (KEY.out _ (x1.trans x2)).2.cells
  go_wp2_with fail
  all_goals
    go_ret
    refine ⟨ret_bool ?_, (hw.x.trans x1).trans x2⟩
    rw [HB.out, Bool.eq_iff_iff]
    clear l1 l2 l3 e0 e1 e2 e3 e4 e5 e6 e7 e8 e9
    simp
    try first | omega | (simp_all; done)

theorem fields_any (w : World) (e : Ev) (v : Vs) (h : EvAt w e v) : Calls Try.prog 65 #[evV e v] w (FPost (evFields e) w) := by
  by_cases q0 : e.kind = 0
  · exact fields_0 w e v h q0
  by_cases hk : Kr e
  · by_cases hb : 0 ≤ e.blk ∧ e.blk < 16 ∧ 1 ≤ e.size ∧ e.size ≤ 8 ∧ 0 ≤ e.at_ ∧ e.at_ ≤ 256 - e.size
    · rcases hk.kd with ⟨q1, r1, r2⟩ | ⟨q1, r1, r2⟩ | ⟨q1, r1, r2, r3, r4⟩
      · exact fields_good1 w e v h hk hb q1 r1 r2
      · exact fields_good2 w e v h hk hb q1 r1 r2
      · exact fields_good3 w e v h hk hb q1 r1 r2 r3 r4
    · exact fields_bad w e v h hk hb
  · have h1 : e.kind ≠ 1 := fun h => hk ⟨.inl ⟨h, by simp [rdsB, h], by simp [wrsB, h]⟩⟩
    have h2 : e.kind ≠ 2 := fun h => hk ⟨.inr (.inl ⟨h, by simp [rdsB, h], by simp [wrsB, h]⟩)⟩
    have h3 : e.kind ≠ 3 ∨ ¬ (e.seq = true ∧ e.nt = true) := by
      by_cases h3 : e.kind = 3
      · exact .inr fun h => hk ⟨.inr (.inr ⟨h3, by simp [rdsB, h3], by simp [wrsB, h3], h.1, h.2⟩)⟩
      · exact .inl h3
    exact fields_x w e v h q0 h1 h2 h3
end Go.Proofs.Ythmkcgiiakinmaa
