/-
  The contract of renref14.shape, events of kind 3. No condition.
-/
import Derived.Test.YthmkcgiiakinmaaRvShA
namespace Go.Proofs.Ythmkcgiiakinmaa
open Go.Ren Go.RowKit
set_option linter.unusedVariables false

set_option maxRecDepth 100000 in
set_option maxHeartbeats 1600000 in
theorem shape_3x (w : World) (ag blk at1 size : Int) (sq nt : Bool) (rd wr : List UInt8) (fr : List Int) (v : Vs) (h : EvAt w ⟨ag, 3, sq, nt, blk, at1, size, rd, wr, fr⟩ v) (hsm : rd.length ≤ 20000 ∧ wr.length ≤ 20000 ∧ fr.length ≤ 20000) (hg : 0 ≤ ag ∧ ag < 64) (hr : 0 ≤ blk ∧ blk < 16 ∧ 1 ≤ size ∧ size ≤ 8 ∧ 0 ≤ at1 ∧ at1 ≤ 256 - size) :
    Calls Try.prog 89 #[evV ⟨ag, 3, sq, nt, blk, at1, size, rd, wr, fr⟩ v] w (FPost (evShape ⟨ag, 3, sq, nt, blk, at1, size, rd, wr, fr⟩) w) := by
  obtain ⟨k1, k2, k3, t1, t2, t3⟩ := ev_facts h
  have n1 := Sl.run_len (P := Try.prog) h.rd IB.und 3
  have n2 := Sl.run_len (P := Try.prog) h.wr IB.und 3
  have n3 := h.fr.sl.run_len (P := Try.prog) II.und 3
  dsimp only at n1 n2 n3
  obtain ⟨m1, m2, m3⟩ := hsm
  have m1 : (rd.length : Int) ≤ 20000 := by omega
  have m2 : (wr.length : Int) ≤ 20000 := by omega
  have m3 : (fr.length : Int) ≤ 20000 := by omega
  obtain ⟨w0, hw0⟩ : ∃ w0, w0 = w.alloc (.cells (evArr ⟨ag, 3, sq, nt, blk, at1, size, rd, wr, fr⟩ v) 67) := ⟨_, rfl⟩
  obtain ⟨g, hg'⟩ : ∃ g, g = w.heap.size := ⟨_, rfl⟩
  have x0 : Ext w w0 := by rw [hw0]; exact (Mod.refl _ _).alloc _
  have b0 : REvBox w0 g ⟨ag, 3, sq, nt, blk, at1, size, rd, wr, fr⟩ v := ⟨by rw [hw0, hg']; exact heap_alloc_new _ _⟩
  have KC : Hid (∀ w', Ext w0 w' → w'.cell? ⟨g, 0, none⟩ = some (.int .i64 ag) ∧ w'.cell? ⟨g, 1, none⟩ = some (.int .i64 3) ∧ w'.cell? ⟨g, 2, none⟩ = some (.bool sq) ∧ w'.cell? ⟨g, 3, none⟩ = some (.bool nt) ∧ w'.cell? ⟨g, 4, none⟩ = some (.int .i64 blk) ∧ w'.cell? ⟨g, 5, none⟩ = some (.int .i64 at1) ∧ w'.cell? ⟨g, 6, none⟩ = some (.int .i64 size) ∧ w'.cell? ⟨g, 7, none⟩ = some v.r ∧ w'.cell? ⟨g, 8, none⟩ = some v.w ∧ w'.cell? ⟨g, 9, none⟩ = some v.f) := Lib.hid fun w' x => (b0.ext x).cells
  have KV : Hid (∀ w', Ext w0 w' → EvAt w' ⟨ag, 3, sq, nt, blk, at1, size, rd, wr, fr⟩ v) := Lib.hid fun w' x => h.ext (x0.trans x)
  have HW := Lib.hid (And.intro hw0 (And.intro hg' x0))
  obtain ⟨c0, c1, c2, c3, c4, c5, c6, c7, c8, c9⟩ := KC.out _ (Mod.refl _ _)
  obtain ⟨B, hB⟩ : ∃ B, B = evShape ⟨ag, 3, sq, nt, blk, at1, size, rd, wr, fr⟩ := ⟨_, rfl⟩
  rw [← hB]
  have HB : Hid (B = ((sq && nt) && decide ((rd.length : Int) = size ∧ (fr.length : Int) = size ∧ (wr.length : Int) = size))) := Lib.hid (by
    rw [hB, evShape_good (show (1 : Int) ≤ 3 ∧ (3 : Int) ≤ 3 by decide) hg.1 hg.2 hr]
    show ((decide ((3 : Int) ≠ 3) || sq && nt) && decide ((rd.length : Int) = size ∧ (fr.length : Int) = size ∧ (wr.length : Int) = size)) = _
    simp)
  clear hw0 hg' x0 b0 h hB
  unfold evV
  dsimp only
  go_enter Try.func89, Try.ntmps89
  go_upto_region 1 with fail
  rw [show w.alloc (.cells #[.int .i64 ag, .int .i64 3, .bool sq, .bool nt, .int .i64 blk, .int .i64 at1, .int .i64 size, v.r, v.w, v.f] 67) = w0 from HW.out.1.symm, ← HW.out.2.1]
  clear t1 t2 t3
  obtain ⟨z0, z1⟩ := hg
  obtain ⟨y, y1, y2, y4, y5, y6⟩ := hr
  by_cases q0 : (rd.length : Int) = size
  case neg =>
    have b0 : ((rd.length : Int) == size) = false := by simpa using q0
    have HF : Hid (B = false) := Lib.hid (by rw [HB.out, decide_eq_false (fun k => q0 k.1), Bool.and_false])
    clear q0
    go_wp2_with fail
    refine (rreads_any _ ⟨ag, 3, sq, nt, blk, at1, size, rd, wr, fr⟩ v (KV.out _ (Mod.refl _ _))).mono ?_
    rintro r w1 ⟨rfl, x1⟩
    rw [show rdsB ⟨ag, 3, sq, nt, blk, at1, size, rd, wr, fr⟩ = true from rfl]
    clear c0 c1 c2 c3 c4 c5 c6 c7 c8 c9
    obtain ⟨c0, c1, c2, c3, c4, c5, c6, c7, c8, c9⟩ := KC.out _ x1
    go_wp2_with fail
    refine (rwrites_any _ ⟨ag, 3, sq, nt, blk, at1, size, rd, wr, fr⟩ v (KV.out _ x1)).mono ?_
    rintro r w2 ⟨rfl, x2⟩
    rw [show wrsB ⟨ag, 3, sq, nt, blk, at1, size, rd, wr, fr⟩ = true from rfl]
    clear c0 c1 c2 c3 c4 c5 c6 c7 c8 c9
    obtain ⟨c0, c1, c2, c3, c4, c5, c6, c7, c8, c9⟩ := KC.out _ (x1.trans x2)
    go_wp2_with fail
    go_ret
    exact ⟨ret_bool HF.out.symm, HW.out.2.2.trans (x1.trans x2)⟩
  case pos =>
    have b0 : ((rd.length : Int) == size) = true := by simpa using q0
    have Q0 := Lib.hid q0
    clear q0
    by_cases q1 : (fr.length : Int) = size
    case neg =>
      have b1 : ((fr.length : Int) == size) = false := by simpa using q1
      have HF : Hid (B = false) := Lib.hid (by rw [HB.out, decide_eq_false (fun k => q1 k.2.1), Bool.and_false])
      clear q1
      go_wp2_with fail
      refine (rreads_any _ ⟨ag, 3, sq, nt, blk, at1, size, rd, wr, fr⟩ v (KV.out _ (Mod.refl _ _))).mono ?_
      rintro r w1 ⟨rfl, x1⟩
      rw [show rdsB ⟨ag, 3, sq, nt, blk, at1, size, rd, wr, fr⟩ = true from rfl]
      clear c0 c1 c2 c3 c4 c5 c6 c7 c8 c9
      obtain ⟨c0, c1, c2, c3, c4, c5, c6, c7, c8, c9⟩ := KC.out _ x1
      go_wp2_with fail
      refine (rwrites_any _ ⟨ag, 3, sq, nt, blk, at1, size, rd, wr, fr⟩ v (KV.out _ x1)).mono ?_
      rintro r w2 ⟨rfl, x2⟩
      rw [show wrsB ⟨ag, 3, sq, nt, blk, at1, size, rd, wr, fr⟩ = true from rfl]
      clear c0 c1 c2 c3 c4 c5 c6 c7 c8 c9
      obtain ⟨c0, c1, c2, c3, c4, c5, c6, c7, c8, c9⟩ := KC.out _ (x1.trans x2)
      go_wp2_with fail
      go_ret
      exact ⟨ret_bool HF.out.symm, HW.out.2.2.trans (x1.trans x2)⟩
    case pos =>
      have b1 : ((fr.length : Int) == size) = true := by simpa using q1
      have Q1 := Lib.hid q1
      clear q1
      by_cases q2 : (wr.length : Int) = size
      case neg =>
        have b2 : ((wr.length : Int) == size) = false := by simpa using q2
        have HF : Hid (B = false) := Lib.hid (by rw [HB.out, decide_eq_false (fun k => q2 k.2.2), Bool.and_false])
        clear q2
        go_wp2_with fail
        refine (rreads_any _ ⟨ag, 3, sq, nt, blk, at1, size, rd, wr, fr⟩ v (KV.out _ (Mod.refl _ _))).mono ?_
        rintro r w1 ⟨rfl, x1⟩
        rw [show rdsB ⟨ag, 3, sq, nt, blk, at1, size, rd, wr, fr⟩ = true from rfl]
        clear c0 c1 c2 c3 c4 c5 c6 c7 c8 c9
        obtain ⟨c0, c1, c2, c3, c4, c5, c6, c7, c8, c9⟩ := KC.out _ x1
        go_wp2_with fail
        refine (rwrites_any _ ⟨ag, 3, sq, nt, blk, at1, size, rd, wr, fr⟩ v (KV.out _ x1)).mono ?_
        rintro r w2 ⟨rfl, x2⟩
        rw [show wrsB ⟨ag, 3, sq, nt, blk, at1, size, rd, wr, fr⟩ = true from rfl]
        clear c0 c1 c2 c3 c4 c5 c6 c7 c8 c9
        obtain ⟨c0, c1, c2, c3, c4, c5, c6, c7, c8, c9⟩ := KC.out _ (x1.trans x2)
        go_wp2_with fail
        go_ret
        exact ⟨ret_bool HF.out.symm, HW.out.2.2.trans (x1.trans x2)⟩
      case pos =>
        have b2 : ((wr.length : Int) == size) = true := by simpa using q2
        have Q2 := Lib.hid q2
        clear q2
        have HBB : Hid (B = (sq && nt)) := Lib.hid (by rw [HB.out, decide_eq_true (And.intro Q0.out (And.intro Q1.out Q2.out)), Bool.and_true])
        cases sq with
        | false =>
          have HF : Hid (B = false) := Lib.hid HBB.out
          go_wp2_with fail
          refine (rreads_any _ ⟨ag, 3, false, nt, blk, at1, size, rd, wr, fr⟩ v (KV.out _ (Mod.refl _ _))).mono ?_
          rintro r w1 ⟨rfl, x1⟩
          rw [show rdsB ⟨ag, 3, false, nt, blk, at1, size, rd, wr, fr⟩ = true from rfl]
          clear c0 c1 c2 c3 c4 c5 c6 c7 c8 c9
          obtain ⟨c0, c1, c2, c3, c4, c5, c6, c7, c8, c9⟩ := KC.out _ x1
          go_wp2_with fail
          refine (rwrites_any _ ⟨ag, 3, false, nt, blk, at1, size, rd, wr, fr⟩ v (KV.out _ x1)).mono ?_
          rintro r w2 ⟨rfl, x2⟩
          rw [show wrsB ⟨ag, 3, false, nt, blk, at1, size, rd, wr, fr⟩ = true from rfl]
          clear c0 c1 c2 c3 c4 c5 c6 c7 c8 c9
          obtain ⟨c0, c1, c2, c3, c4, c5, c6, c7, c8, c9⟩ := KC.out _ (x1.trans x2)
          go_wp2_with fail
          go_ret
          exact ⟨ret_bool HF.out.symm, HW.out.2.2.trans (x1.trans x2)⟩
        | true =>
          cases nt with
          | false =>
            have HF : Hid (B = false) := Lib.hid HBB.out
            go_wp2_with fail
            refine (rreads_any _ ⟨ag, 3, true, false, blk, at1, size, rd, wr, fr⟩ v (KV.out _ (Mod.refl _ _))).mono ?_
            rintro r w1 ⟨rfl, x1⟩
            rw [show rdsB ⟨ag, 3, true, false, blk, at1, size, rd, wr, fr⟩ = true from rfl]
            clear c0 c1 c2 c3 c4 c5 c6 c7 c8 c9
            obtain ⟨c0, c1, c2, c3, c4, c5, c6, c7, c8, c9⟩ := KC.out _ x1
            go_wp2_with fail
            refine (rwrites_any _ ⟨ag, 3, true, false, blk, at1, size, rd, wr, fr⟩ v (KV.out _ x1)).mono ?_
            rintro r w2 ⟨rfl, x2⟩
            rw [show wrsB ⟨ag, 3, true, false, blk, at1, size, rd, wr, fr⟩ = true from rfl]
            clear c0 c1 c2 c3 c4 c5 c6 c7 c8 c9
            obtain ⟨c0, c1, c2, c3, c4, c5, c6, c7, c8, c9⟩ := KC.out _ (x1.trans x2)
            go_wp2_with fail
            go_ret
            exact ⟨ret_bool HF.out.symm, HW.out.2.2.trans (x1.trans x2)⟩
          | true =>
            have HF : Hid (B = true) := Lib.hid HBB.out
            go_wp2_with fail
            refine (rreads_any _ ⟨ag, 3, true, true, blk, at1, size, rd, wr, fr⟩ v (KV.out _ (Mod.refl _ _))).mono ?_
            rintro r w1 ⟨rfl, x1⟩
            rw [show rdsB ⟨ag, 3, true, true, blk, at1, size, rd, wr, fr⟩ = true from rfl]
            clear c0 c1 c2 c3 c4 c5 c6 c7 c8 c9
            obtain ⟨c0, c1, c2, c3, c4, c5, c6, c7, c8, c9⟩ := KC.out _ x1
            go_wp2_with fail
            refine (rwrites_any _ ⟨ag, 3, true, true, blk, at1, size, rd, wr, fr⟩ v (KV.out _ x1)).mono ?_
            rintro r w2 ⟨rfl, x2⟩
            rw [show wrsB ⟨ag, 3, true, true, blk, at1, size, rd, wr, fr⟩ = true from rfl]
            clear c0 c1 c2 c3 c4 c5 c6 c7 c8 c9
            obtain ⟨c0, c1, c2, c3, c4, c5, c6, c7, c8, c9⟩ := KC.out _ (x1.trans x2)
            go_wp2_with fail
            go_ret
            exact ⟨ret_bool HF.out.symm, HW.out.2.2.trans (x1.trans x2)⟩
theorem shape_3 (w : World) (e : Ev) (v : Vs) (h : EvAt w e v) (hsm : e.rd.length ≤ 20000 ∧ e.wr.length ≤ 20000 ∧ e.fr.length ≤ 20000) (hg : 0 ≤ e.ag ∧ e.ag < 64) (z4 : e.kind = 3) (hr : 0 ≤ e.blk ∧ e.blk < 16 ∧ 1 ≤ e.size ∧ e.size ≤ 8 ∧ 0 ≤ e.at_ ∧ e.at_ ≤ 256 - e.size) :
    Calls Try.prog 89 #[evV e v] w (FPost (evShape e) w) := by
  obtain ⟨ag, kind, sq, nt, blk, at1, size, rd, wr, fr⟩ := e
  dsimp only at z4
  subst z4
  exact shape_3x w ag blk at1 size sq nt rd wr fr v h hsm hg hr
end Go.Proofs.Ythmkcgiiakinmaa
