/-
  The contract of renref14.shape, agents, kinds, ranges that may not be; Syncs. No condition.
-/
import Derived.Test.YthmkcgiiakinmaaRvAt
namespace Go.Ren
def evShape (e : Ev) : Bool := decide (0 ≤ e.ag ∧ e.ag < 64) && evFields e
theorem evShape_kind {e : Ev} (h : e.kind < 0 ∨ 3 < e.kind) : evShape e = false := by
  unfold evShape evFields
  rw [if_neg (by omega)]
  have : decide (e.kind = 1 ∨ e.kind = 2 ∨ e.kind = 3) = false := by rw [decide_eq_false_iff_not]; omega
  rw [this]; simp
theorem evShape_ag {e : Ev} (h : e.ag < 0 ∨ 64 ≤ e.ag) : evShape e = false := by
  unfold evShape
  have : decide (0 ≤ e.ag ∧ e.ag < 64) = false := by rw [decide_eq_false_iff_not]; omega
  rw [this]; rfl
theorem evShape_rng {e : Ev} (hk : e.kind ≠ 0) (h : ¬ (0 ≤ e.blk ∧ e.blk < 16 ∧ 1 ≤ e.size ∧ e.size ≤ 8 ∧ 0 ≤ e.at_ ∧ e.at_ ≤ 256 - e.size)) : evShape e = false := by
  unfold evShape evFields
  rw [if_neg hk]
  have : decide (0 ≤ e.blk ∧ e.blk < 16 ∧ 1 ≤ e.size ∧ e.size ≤ 8 ∧ 0 ≤ e.at_ ∧ e.at_ ≤ 256 - e.size) = false := by rw [decide_eq_false_iff_not]; exact h
  rw [this]; simp
end Go.Ren
namespace Go.Proofs.Ythmkcgiiakinmaa
open Go.Ren Go.RowKit
set_option linter.unusedVariables false

theorem IRv : EInfo Try.prog 28 67 10 120 (.agg #[.int .i64 0, .int .i64 0, .bool false, .bool false, .int .i64 0, .int .i64 0, .int .i64 0, .slice none 0 0, .slice none 0 0, .slice none 0 0]) := ⟨Try.underlying28, by kernel_rfl, rfl, by decide⟩

theorem evShape_sync {e : Ev} (hk : e.kind = 0) (h0 : 0 ≤ e.ag) (h1 : e.ag < 64) : evShape e = (!e.seq && !e.nt && decide (e.blk = 0) && decide (e.at_ = 0) && decide (e.size = 0) && decide ((e.rd.length : Int) + (e.wr.length : Int) + (e.fr.length : Int) = 0)) := by
  unfold evShape evFields
  rw [if_pos hk, Bool.eq_iff_iff]
  simp only [Bool.and_eq_true, decide_eq_true_eq, List.isEmpty_iff, Bool.not_eq_true']
  constructor
  · rintro ⟨_, ⟨⟨⟨⟨a, b⟩, c, d, f⟩, g⟩, h⟩, i⟩
    rw [g, h, i]
    exact ⟨⟨⟨⟨⟨a, b⟩, c⟩, d⟩, f⟩, rfl⟩
  · rintro ⟨⟨⟨⟨⟨a, b⟩, c⟩, d⟩, f⟩, g⟩
    exact ⟨⟨h0, h1⟩, ⟨⟨⟨⟨⟨a, b⟩, c, d, f⟩, List.eq_nil_of_length_eq_zero (by omega)⟩, List.eq_nil_of_length_eq_zero (by omega)⟩, List.eq_nil_of_length_eq_zero (by omega)⟩⟩
theorem evShape_good {e : Ev} (hk : 1 ≤ e.kind ∧ e.kind ≤ 3) (h0 : 0 ≤ e.ag) (h1 : e.ag < 64) (h : 0 ≤ e.blk ∧ e.blk < 16 ∧ 1 ≤ e.size ∧ e.size ≤ 8 ∧ 0 ≤ e.at_ ∧ e.at_ ≤ 256 - e.size) : evShape e = ((decide (e.kind ≠ 3) || e.seq && e.nt) && decide ((e.rd.length : Int) = (if rdsB e then e.size else 0) ∧ (e.fr.length : Int) = (if rdsB e then e.size else 0) ∧ (e.wr.length : Int) = (if wrsB e then e.size else 0))) := by
  unfold evShape evFields
  rw [if_neg (by omega)]
  have e1 : decide (0 ≤ e.ag ∧ e.ag < 64) = true := by rw [decide_eq_true_eq]; omega
  have e2 : decide (e.kind = 1 ∨ e.kind = 2 ∨ e.kind = 3) = true := by rw [decide_eq_true_eq]; omega
  have e3 : decide (0 ≤ e.blk ∧ e.blk < 16 ∧ 1 ≤ e.size ∧ e.size ≤ 8 ∧ 0 ≤ e.at_ ∧ e.at_ ≤ 256 - e.size) = true := by rw [decide_eq_true_eq]; exact h
  rw [e1, e2, e3]; simp
set_option maxRecDepth 100000 in
set_option maxHeartbeats 1600000 in
theorem shape_a (w : World) (e : Ev) (v : Vs) (h : EvAt w e v) (hsm : e.rd.length ≤ 20000 ∧ e.wr.length ≤ 20000 ∧ e.fr.length ≤ 20000) (hbad : ¬ (0 ≤ e.ag ∧ e.ag < 64 ∧ 1 ≤ e.kind ∧ e.kind ≤ 3)) :
    Calls Try.prog 89 #[evV e v] w (FPost (evShape e) w) := by
  obtain ⟨k1, k2, k3, t1, t2, t3⟩ := ev_facts h
  have n1 := Sl.run_len (P := Try.prog) h.rd IB.und 3
  have n2 := Sl.run_len (P := Try.prog) h.wr IB.und 3
  have n3 := h.fr.sl.run_len (P := Try.prog) II.und 3
  obtain ⟨m1, m2, m3⟩ := hsm
  have m1 : (e.rd.length : Int) ≤ 20000 := by omega
  have m2 : (e.wr.length : Int) ≤ 20000 := by omega
  have m3 : (e.fr.length : Int) ≤ 20000 := by omega
  obtain ⟨w0, hw0⟩ : ∃ w0, w0 = w.alloc (.cells (evArr e v) 67) := ⟨_, rfl⟩
  obtain ⟨g, hg⟩ : ∃ g, g = w.heap.size := ⟨_, rfl⟩
  have x0 : Ext w w0 := by rw [hw0]; exact (Mod.refl _ _).alloc _
  have b0 : REvBox w0 g e v := ⟨by rw [hw0, hg]; exact heap_alloc_new _ _⟩
  have KE : Hid (∀ w', Ext w0 w' → REvBox w' g e v ∧ EvAt w' e v) := Lib.hid fun w' x => ⟨b0.ext x, h.ext (x0.trans x)⟩
  have HW := Lib.hid (And.intro hw0 (And.intro hg x0))
  obtain ⟨c0, c1, c2, c3, c4, c5, c6, c7, c8, c9⟩ := b0.cells
  obtain ⟨B, hB⟩ : ∃ B, B = evShape e := ⟨_, rfl⟩
  rw [← hB]
  have HB := Lib.hid hB
  clear hw0 hg x0 b0 h hB
  unfold evV
  go_enter Try.func89, Try.ntmps89
  go_upto_region 1 with fail
  rw [← HW.out.1, ← HW.out.2.1]
  clear t1 t2 t3
  rcases (by omega : e.ag < 0 ∨ (0 ≤ e.ag ∧ 64 ≤ e.ag) ∨ (0 ≤ e.ag ∧ e.ag < 64 ∧ e.kind < 0) ∨ (0 ≤ e.ag ∧ e.ag < 64 ∧ 0 ≤ e.kind ∧ 3 < e.kind) ∨ (0 ≤ e.ag ∧ e.ag < 64 ∧ e.kind = 0)) with z0 | ⟨z0, z1⟩ | ⟨z0, z1, z2⟩ | ⟨z0, z1, z2, z3⟩ | ⟨z0, z1, hk⟩
  all_goals clear hbad
  case inl =>
    have HF : Hid (B = false) := Lib.hid (by rw [HB.out]; exact evShape_ag (by omega))
    go_wp2_with fail
    go_ret
    exact ⟨ret_bool HF.out.symm, HW.out.2.2⟩
  case inr.inl =>
    have HF : Hid (B = false) := Lib.hid (by rw [HB.out]; exact evShape_ag (by omega))
    go_wp2_with fail
    go_ret
    exact ⟨ret_bool HF.out.symm, HW.out.2.2⟩
  case inr.inr.inl =>
    have HF : Hid (B = false) := Lib.hid (by rw [HB.out]; exact evShape_kind (by omega))
    go_wp2_with fail
    go_ret
    exact ⟨ret_bool HF.out.symm, HW.out.2.2⟩
  case inr.inr.inr.inl =>
    have HF : Hid (B = false) := Lib.hid (by rw [HB.out]; exact evShape_kind (by omega))
    go_wp2_with fail
    go_ret
    exact ⟨ret_bool HF.out.symm, HW.out.2.2⟩
  case inr.inr.inr.inr =>
    have e0 : (e.kind == 0) = true := by simpa using hk
    have e1 : ¬ e.kind < 0 := by omega
    have e2 : ¬ 3 < e.kind := by omega
    have HK := Lib.hid hk
    clear hk
    by_cases q0 : e.seq = false
    case neg =>
      have HF : Hid (B = false) := Lib.hid (by rw [HB.out]; cases hb : evShape e with | false => rfl | true => exfalso; rw [evShape_sync HK.out z0 z1] at hb; simp [-List.length_eq_zero_iff] at hb; simp_all)
      have b0 : e.seq = true := by simpa using q0
      clear q0
      go_wp2_with fail
      go_ret
      exact ⟨ret_bool HF.out.symm, HW.out.2.2⟩
    case pos =>
      have b0 := q0
      have Q0 := Lib.hid q0
      clear q0
      by_cases q1 : e.nt = false
      case neg =>
        have HF : Hid (B = false) := Lib.hid (by rw [HB.out]; cases hb : evShape e with | false => rfl | true => exfalso; rw [evShape_sync HK.out z0 z1] at hb; simp [-List.length_eq_zero_iff] at hb; simp_all)
        have b1 : e.nt = true := by simpa using q1
        clear q1
        go_wp2_with fail
        go_ret
        exact ⟨ret_bool HF.out.symm, HW.out.2.2⟩
      case pos =>
        have b1 := q1
        have Q1 := Lib.hid q1
        clear q1
        by_cases q2 : e.blk = 0
        case neg =>
          have HF : Hid (B = false) := Lib.hid (by rw [HB.out]; cases hb : evShape e with | false => rfl | true => exfalso; rw [evShape_sync HK.out z0 z1] at hb; simp [-List.length_eq_zero_iff] at hb; omega)
          have b2 : (e.blk == 0) = false := by simpa using q2
          clear q2
          go_wp2_with fail
          go_ret
          exact ⟨ret_bool HF.out.symm, HW.out.2.2⟩
        case pos =>
          have b2 : (e.blk == 0) = true := by simpa using q2
          have Q2 := Lib.hid q2
          clear q2
          by_cases q3 : e.at_ = 0
          case neg =>
            have HF : Hid (B = false) := Lib.hid (by rw [HB.out]; cases hb : evShape e with | false => rfl | true => exfalso; rw [evShape_sync HK.out z0 z1] at hb; simp [-List.length_eq_zero_iff] at hb; omega)
            have b3 : (e.at_ == 0) = false := by simpa using q3
            clear q3
            go_wp2_with fail
            go_ret
            exact ⟨ret_bool HF.out.symm, HW.out.2.2⟩
          case pos =>
            have b3 : (e.at_ == 0) = true := by simpa using q3
            have Q3 := Lib.hid q3
            clear q3
            by_cases q4 : e.size = 0
            case neg =>
              have HF : Hid (B = false) := Lib.hid (by rw [HB.out]; cases hb : evShape e with | false => rfl | true => exfalso; rw [evShape_sync HK.out z0 z1] at hb; simp [-List.length_eq_zero_iff] at hb; omega)
              have b4 : (e.size == 0) = false := by simpa using q4
              clear q4
              go_wp2_with fail
              go_ret
              exact ⟨ret_bool HF.out.symm, HW.out.2.2⟩
            case pos =>
              have b4 : (e.size == 0) = true := by simpa using q4
              have Q4 := Lib.hid q4
              clear q4
              by_cases q5 : (e.rd.length : Int) + (e.wr.length : Int) + (e.fr.length : Int) = 0
              case neg =>
                have HF : Hid (B = false) := Lib.hid (by rw [HB.out]; cases hb : evShape e with | false => rfl | true => exfalso; rw [evShape_sync HK.out z0 z1] at hb; simp [-List.length_eq_zero_iff] at hb; omega)
                have b5 : ((e.rd.length : Int) + (e.wr.length : Int) + (e.fr.length : Int) == 0) = false := by simpa using q5
                clear q5
                go_wp2_with fail
                go_ret
                exact ⟨ret_bool HF.out.symm, HW.out.2.2⟩
              case pos =>
                have b5 : ((e.rd.length : Int) + (e.wr.length : Int) + (e.fr.length : Int) == 0) = true := by simpa using q5
                have Q5 := Lib.hid q5
                clear q5
                have HF : Hid (B = true) := Lib.hid (by rw [HB.out, evShape_sync HK.out z0 z1]; simp [-List.length_eq_zero_iff, Q0.out, Q1.out, Q2.out, Q3.out, Q4.out, Q5.out])
                go_wp2_with fail
                go_ret
                exact ⟨ret_bool HF.out.symm, HW.out.2.2⟩
set_option maxRecDepth 100000 in
set_option maxHeartbeats 1600000 in
theorem shape_b (w : World) (e : Ev) (v : Vs) (h : EvAt w e v) (hsm : e.rd.length ≤ 20000 ∧ e.wr.length ≤ 20000 ∧ e.fr.length ≤ 20000) (hg : 0 ≤ e.ag ∧ e.ag < 64 ∧ 1 ≤ e.kind ∧ e.kind ≤ 3) (hr : ¬ (0 ≤ e.blk ∧ e.blk < 16 ∧ 1 ≤ e.size ∧ e.size ≤ 8 ∧ 0 ≤ e.at_ ∧ e.at_ ≤ 256 - e.size)) :
    Calls Try.prog 89 #[evV e v] w (FPost (evShape e) w) := by
  obtain ⟨k1, k2, k3, t1, t2, t3⟩ := ev_facts h
  have n1 := Sl.run_len (P := Try.prog) h.rd IB.und 3
  have n2 := Sl.run_len (P := Try.prog) h.wr IB.und 3
  have n3 := h.fr.sl.run_len (P := Try.prog) II.und 3
  obtain ⟨m1, m2, m3⟩ := hsm
  have m1 : (e.rd.length : Int) ≤ 20000 := by omega
  have m2 : (e.wr.length : Int) ≤ 20000 := by omega
  have m3 : (e.fr.length : Int) ≤ 20000 := by omega
  obtain ⟨w0, hw0⟩ : ∃ w0, w0 = w.alloc (.cells (evArr e v) 67) := ⟨_, rfl⟩
  obtain ⟨g, hg⟩ : ∃ g, g = w.heap.size := ⟨_, rfl⟩
  have x0 : Ext w w0 := by rw [hw0]; exact (Mod.refl _ _).alloc _
  have b0 : REvBox w0 g e v := ⟨by rw [hw0, hg]; exact heap_alloc_new _ _⟩
  have KE : Hid (∀ w', Ext w0 w' → REvBox w' g e v ∧ EvAt w' e v) := Lib.hid fun w' x => ⟨b0.ext x, h.ext (x0.trans x)⟩
  have HW := Lib.hid (And.intro hw0 (And.intro hg x0))
  obtain ⟨c0, c1, c2, c3, c4, c5, c6, c7, c8, c9⟩ := b0.cells
  obtain ⟨B, hB⟩ : ∃ B, B = evShape e := ⟨_, rfl⟩
  rw [← hB]
  have HB := Lib.hid hB
  clear hw0 hg x0 b0 h hB
  unfold evV
  go_enter Try.func89, Try.ntmps89
  go_upto_region 1 with fail
  rw [← HW.out.1, ← HW.out.2.1]
  clear t1 t2 t3
  obtain ⟨z0, z1, z2, z3⟩ := hg
  have e0 : (e.kind == 0) = false := by rw [beq_eq_false_iff_ne]; omega
  have HF : Hid (B = false) := Lib.hid (by rw [HB.out]; exact evShape_rng (by omega) hr)
  rcases (by omega : e.blk < 0 ∨ (0 ≤ e.blk ∧ 16 ≤ e.blk) ∨ (0 ≤ e.blk ∧ e.blk < 16 ∧ e.size < 1) ∨ (0 ≤ e.blk ∧ e.blk < 16 ∧ 1 ≤ e.size ∧ 8 < e.size) ∨ (0 ≤ e.blk ∧ e.blk < 16 ∧ 1 ≤ e.size ∧ e.size ≤ 8 ∧ e.at_ < 0) ∨ (0 ≤ e.blk ∧ e.blk < 16 ∧ 1 ≤ e.size ∧ e.size ≤ 8 ∧ 0 ≤ e.at_ ∧ 256 - e.size < e.at_)) with y | ⟨y, y1⟩ | ⟨y, y1, y2⟩ | ⟨y, y1, y2, y3⟩ | ⟨y, y1, y2, y3, y4⟩ | ⟨y, y1, y2, y3, y4, y5⟩
  all_goals
    clear hr
    go_wp2_with fail
    go_ret
    exact ⟨ret_bool HF.out.symm, HW.out.2.2⟩
end Go.Proofs.Ythmkcgiiakinmaa
