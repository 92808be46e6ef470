/-
  The contracts of cell.Replay, renref18.Replay. No condition.
-/
import Derived.Test.YthmkcgiiakinmaaCellClean
import Derived.Test.YthmkcgiiakinmaaRvWord
namespace Go.Proofs.Ythmkcgiiakinmaa
open Go.Ren Go.RowKit
set_option linter.unusedVariables false
theorem rep_zero (L : Lg) (b a : Int) (s : Nat) : wordN (repS L (ldE b a (s : Int)) 0) = 0 := by
  show wordN (List.replicate _ 0) = 0
  generalize (ldE b a (s : Int)).size.toNat = n
  induction n with
  | zero => rfl
  | succ n ih => rw [List.replicate_succ]; unfold wordN; rw [ih]; rfl
theorem bytesEq_any (w : World) (v1 v2 : Value) (a b : List UInt8) (h1 : BytesAt w v1 a) (h2 : BytesAt w v2 b) :
    Calls Try.prog 77 #[v1, v2] w fun e w' => e = .returned (.bool (a == b)) ∧ w = w' := by
  have e1 := h1.run_string (P := Try.prog) (D := 9) Try.underlying42 Try.underlying5 Try.underlying9
  have e2 := h2.run_string (P := Try.prog) (D := 9) Try.underlying42 Try.underlying5 Try.underlying9
  have s1 := str_toList a
  have s2 := str_toList b
  clear h1 h2
  go_enter Try.func77, Try.ntmps77
  go_wp2
  go_ret
  exact ⟨rfl, rfl⟩
set_option maxRecDepth 100000 in
set_option maxHeartbeats 1600000 in
theorem replay_any (w : World) (ve vp : Value) (V : Nat → Vs) (L : Lg) (h : LogIn w ve vp V L) (blk pos size : Int) (hb : I64 blk) (ha : I64 pos) (hs : I64 size) :
    Calls Try.prog 35 #[.agg #[ve, vp], .int .i64 blk, .int .i64 pos, .int .i64 size] w (FPost (repB L (ldE blk pos size)) w) := by
  have HBI := Lib.hid (And.intro hb (And.intro ha hs))
  clear hb ha hs
  have q1 := Sl.cells_eq h.row
  have q2 := Sl.cells_eq h.prow
  have s1 := Sl.run_st (P := Try.prog) h.row
  have s2 := Sl.run_st (P := Try.prog) h.prow
  obtain ⟨w0, hw0⟩ : ∃ w0, w0 = w.alloc (.cells #[ve, vp] 25) := ⟨_, rfl⟩
  obtain ⟨g0, hg0⟩ : ∃ g, g = w.heap.size := ⟨_, rfl⟩
  have x0 : Ext w w0 := by rw [hw0]; exact (Mod.refl _ _).alloc _
  have b0 : LogBox w0 g0 ve vp := ⟨by rw [hw0, hg0]; exact heap_alloc_new _ _⟩
  have HW := Lib.hid (And.intro hw0 (And.intro hg0 x0))
  have KE : Hid (∀ w', Ext w0 w' → LogIn w' ve vp V L ∧ LogBox w' g0 ve vp) := Lib.hid fun w' x => ⟨h.ext (x0.trans x), b0.ext x⟩
  have HI := Lib.hid (h.row.run_idx (P := Try.prog) IEv.und IEv.size .i64)
  have HJ := Lib.hid (h.prow.run_idx (P := Try.prog) IP.und IP.size .i64)
  have l1 := h.row.run_len (P := Try.prog) IEv.und 3
  have l2 := h.prow.run_len (P := Try.prog) IP.und 3
  obtain ⟨c0, c1⟩ := b0.cells
  clear hw0 hg0 x0 b0 h
  go_enter Try.func35, Try.ntmps35
  go_upto_region 1 with fail
  rw [← HW.out.1, ← HW.out.2.1]
  clear s1 s2
  go_wp2_with fail
  refine (clean_any _ ve vp V L (KE.out _ (Mod.refl _ _)).1 blk pos size HBI.out.1 HBI.out.2.1 HBI.out.2.2).mono ?_
  rintro e w2 ⟨rfl, y1⟩
  clear c0 c1
  have HY1 := Lib.hid y1
  clear y1
  cases hc : cleanB L (ldE blk pos size) with
  | false =>
    have HC : Hid (repB L (ldE blk pos size) = false) := Lib.hid (rep_no hc)
    clear hc
    go_wp2_with fail
    go_ret
    exact ⟨by rw [HC.out]; rfl, HW.out.2.2.trans HY1.out⟩
  | true =>
    have hle : (L.ev.length : Int) ≤ 1000 := by have := (mayL_iff.1 (clean_facts hc).1).1.1; omega
    obtain ⟨s, hsz⟩ : ∃ s : Nat, size = (s : Int) := ⟨size.toNat, by have := goodB_le (clean_facts hc).2; show size = _; change 1 ≤ size ∧ size ≤ 8 at this; omega⟩
    have hs8 : s ≤ 8 := by have := goodB_le (clean_facts hc).2; change 1 ≤ size ∧ size ≤ 8 at this; omega
    subst hsz
    have HSZ := Lib.hid hs8
    have m1 := run_make_row' (P := Try.prog) 42 5 (.int .u8 0) 1 IB.und IB.info rfl .i64 .i64 s (by omega) (by omega)
    have HCL := Lib.hid hc
    clear hc hs8
    obtain ⟨c0, c1⟩ := (KE.out _ HY1.out).2.cells
    obtain ⟨w3, hw3⟩ : ∃ w3, w3 = w2.alloc (.cells #[.int .i64 0, .int .i64 1, .bool false, .bool false, .int .i64 blk, .int .i64 pos, .int .i64 (s : Int), .slice none 0 0, .slice none 0 0, .slice none 0 0] 45) := ⟨_, rfl⟩
    obtain ⟨g3, hg3⟩ : ∃ g, g = w2.heap.size := ⟨_, rfl⟩
    have x3 : Ext w2 w3 := by rw [hw3]; exact (Mod.refl _ _).alloc _
    have b3 : EvBox w3 g3 (ldE blk pos (s : Int)) nilV := ⟨by rw [hw3, hg3]; exact heap_alloc_new _ _⟩
    have HW3 := Lib.hid (And.intro hw3 hg3)
    have HX3 := Lib.hid (HY1.out.trans x3)
    have KX : Hid (∀ w', Ext w3 w' → EvAt w' (ldE blk pos (s : Int)) nilV ∧ EvBox w' g3 (ldE blk pos (s : Int)) nilV) := Lib.hid fun w' x => ⟨nil_ev w' HBI.out.1 HBI.out.2.1 HBI.out.2.2, b3.ext x⟩
    clear hw3 hg3 x3 b3 c0 c1
    go_upto_region 4 with fail
    rw [← HW3.out.1, ← HW3.out.2]
    go_upto_region 5 with fail
    obtain ⟨w4, hw4⟩ : ∃ w4, w4 = w3.alloc (.cells (madeCells #[.int .u8 0] s) 5) := ⟨_, rfl⟩
    obtain ⟨v0, hv0⟩ : ∃ v : Value, v = .slice (some ⟨w3.heap.size, 0, none⟩) s s := ⟨_, rfl⟩
    rw [← hw4, ← hv0]
    have x4 : Ext w3 w4 := by rw [hw4]; exact (Mod.refl _ _).alloc _
    have B0 : Hid (BytesAt w4 v0 (repS L (ldE blk pos (s : Int)) 0)) := Lib.hid (by
      have h1 : w4.heap[w3.heap.size]? = some (.cells (madeCells #[.int .u8 0] s) 5 (0, 0)) := by rw [hw4]; exact heap_alloc_new _ _
      have h2 := (Go.Ren.Own.made_at h1 (by simp only [maxLen]; have := HSZ.out; omega)).sl
      rw [hv0]
      show Sl w4 _ 1 (List.replicate (s : Int).toNat (0 : UInt8)).length ((List.replicate (s : Int).toNat (0 : UInt8)).map bv)
      rw [Int.toNat_natCast, List.length_replicate, List.map_replicate]
      exact h2)
    have HX4 := Lib.hid x4
    have HE4 := Lib.hid (HX3.out.trans x4)
    clear hw4 hv0 x4
    obtain ⟨c0, c1⟩ := (KE.out _ HE4.out).2.cells
    go_wp2_with fail
    clear c0 c1
    go_loopw [10, 28] (fun s10 sr wr => ∃ r : Nat, r ≤ L.ev.length ∧ sr = .int .i64 (r : Int) ∧ BytesAt wr s10 (repS L (ldE blk pos (s : Int)) r) ∧ (∀ j, j < r → rep1 L (ldE blk pos (s : Int)) j = false) ∧ Ext w4 wr) (fun _ s _ => L.ev.length - (intOf s).toNat)
    case atStart => exact ⟨0, Nat.zero_le _, rfl, B0.out, fun j hj => absurd hj (Nat.not_lt_zero _), Mod.refl _ _⟩
    case round =>
      obtain ⟨r, hr, rfl, hbw, hn, xx⟩ := hrel
      have HN := Lib.hid hn
      have HX := Lib.hid xx
      have HBW := Lib.hid hbw
      clear hbw
      clear hn xx
      by_cases hlt : r < L.ev.length
      · have hlt' : (r : Int) < (L.ev.length : Int) := by omega
        have i0 := HI.out r hlt
        have hlg := (KE.out _ (HE4.out.trans HX.out)).1
        obtain ⟨c0, c1, c2, c3, c4, c5, c6, c7, c8, c9⟩ := hlg.cells hlt
        have hea := hlg.ev r hlt
        obtain ⟨e, he⟩ : ∃ e, e = evn L.ev r := ⟨_, rfl⟩
        obtain ⟨v, hv⟩ : ∃ v, v = V r := ⟨_, rfl⟩
        obtain ⟨A, hA⟩ : ∃ A, A = at_ ve (r * 10) := ⟨_, rfl⟩
        rw [← hA] at i0 c0 c1 c2 c3 c4 c5 c6 c7 c8 c9
        rw [← he] at c0 c1 c2 c3 c4 c5 c6 hea
        rw [← hv] at c7 c8 c9 hea
        obtain ⟨k1, k2, k3, t1, t2, t3⟩ := ev_facts hea
        obtain ⟨w5, hw5⟩ : ∃ w5, w5 = wr.alloc (.cells (evArr e v) 45) := ⟨_, rfl⟩
        obtain ⟨g5, hg5⟩ : ∃ g, g = wr.heap.size := ⟨_, rfl⟩
        have x5 : Ext wr w5 := by rw [hw5]; exact (Mod.refl _ _).alloc _
        have b5 : EvBox w5 g5 e v := by rw [hw5, hg5]; exact EvBox.of wr e v
        have HEA := Lib.hid (hea.ext x5)
        have HE := Lib.hid (And.intro he hv)
        have HW5 := Lib.hid (And.intro hw5 (And.intro hg5 (And.intro x5 b5)))
        have l5 := hea.fr.sl.run_len (P := Try.prog) II.und 3
        have J5 := Lib.hid (hea.fr.sl.run_idx (P := Try.prog) II.und II.size .i64)
        obtain ⟨d0, d1, d2, d3, d4, d5, d6, d7, d8, d9⟩ := b5.cells
        clear hlg hea he hv hA hw5 hg5 x5 b5
        go_upto_region 8 with fail
        rw [← HW5.out.1, ← HW5.out.2.1]
        clear c0 c1 c2 c3 c4 c5 c6 c7 c8 c9 t1 t2 t3 i0
        have HXQ := Lib.hid (HX.out.trans HW5.out.2.2.1)
        obtain ⟨Q, hQ⟩ : ∃ O, O = evEq e (ldE blk pos (s : Int)) := ⟨_, rfl⟩
        obtain ⟨RD, hRD⟩ : ∃ O, O = rdsB e := ⟨_, rfl⟩
        obtain ⟨WR, hWR⟩ : ∃ O, O = wrsB e := ⟨_, rfl⟩
        obtain ⟨EB, hEB⟩ : ∃ O, O = (e.rd == repS L (ldE blk pos (s : Int)) r) := ⟨_, rfl⟩
        have HQ := Lib.hid hQ.symm
        have HRD := Lib.hid hRD.symm
        have HWR := Lib.hid hWR.symm
        have HEB := Lib.hid hEB.symm
        have HR1 : Hid (Q = true → rep1 L (ldE blk pos (s : Int)) r = (RD && !EB)) := Lib.hid fun h => rep1_of (by rw [← HE.out.1, ← hQ]; exact h) (by rw [← HE.out.1, ← hRD]) (by rw [← HE.out.1, ← hEB])
        clear hQ hRD hWR hEB
        obtain ⟨a0, a1, a2, a3, a4, a5, a6, a7, a8, a9⟩ := (KX.out _ (HX4.out.trans HXQ.out)).2.cells
        go_wp2_with fail
        refine (equal_any _ e (ldE blk pos (s : Int)) v nilV HEA.out (KX.out _ (HX4.out.trans HXQ.out)).1).mono ?_
        rintro en w6 ⟨rfl, y6⟩
        rw [HQ.out]
        clear d0 d1 d2 d3 d4 d5 d6 d7 d8 d9
        clear a0 a1 a2 a3 a4 a5 a6 a7 a8 a9
        have HY6 := Lib.hid y6
        clear y6
        cases Q with
        | false =>
          have HNO : Hid (rep1 L (ldE blk pos (s : Int)) r = false) := Lib.hid (rep_skip (by rw [← HE.out.1]; exact HQ.out)).1
          have HREP : Hid (repS L (ldE blk pos (s : Int)) (r + 1) = repS L (ldE blk pos (s : Int)) r) := Lib.hid (rep_skip (by rw [← HE.out.1]; exact HQ.out)).2
          have HNN : Hid (∀ j, j < r + 1 → rep1 L (ldE blk pos (s : Int)) j = false) := Lib.hid (fun j hj => by
            by_cases e : j = r
            · rw [e]; exact HNO.out
            · exact HN.out j (by omega))
          go_wp2_with fail
          go_roundw
          case rel => exact ⟨r + 1, by omega, by go_num, by rw [HREP.out]; exact HBW.out.ext (HW5.out.2.2.1.trans (HY6.out)), HNN.out, HXQ.out.trans (HY6.out)⟩
          case measure => simp [intOf]; omega
        | true =>
          have HR2 := Lib.hid (HR1.out rfl)
          clear HR1
          have HNX : Hid (repS L (ldE blk pos (s : Int)) (r + 1) = if WR = true then e.wr else repS L (ldE blk pos (s : Int)) r) := Lib.hid (by have h := rep_next (L := L) (x := (ldE blk pos (s : Int))) (r := r) (by rw [← HE.out.1]; exact HQ.out); rw [h, ← HE.out.1, HWR.out])
          obtain ⟨d0, d1, d2, d3, d4, d5, d6, d7, d8, d9⟩ := (HW5.out.2.2.2.ext HY6.out).cells
          go_wp2_with fail
          refine (reads_any _ e v (HEA.out.ext HY6.out)).mono ?_
          rintro en w7 ⟨rfl, y7⟩
          rw [HRD.out]
          clear d0 d1 d2 d3 d4 d5 d6 d7 d8 d9
          have HY7 := Lib.hid (HY6.out.trans y7)
          clear y7
          cases RD with
          | false =>
            have HNO : Hid (rep1 L (ldE blk pos (s : Int)) r = false) := Lib.hid (by rw [HR2.out]; rfl)
            obtain ⟨d0, d1, d2, d3, d4, d5, d6, d7, d8, d9⟩ := (HW5.out.2.2.2.ext HY7.out).cells
            go_wp2_with fail
            refine (writes_any _ e v (HEA.out.ext (HY7.out))).mono ?_
            rintro en w8 ⟨rfl, y8⟩
            rw [HWR.out]
            clear d0 d1 d2 d3 d4 d5 d6 d7 d8 d9
            have HZ := Lib.hid ((HY7.out).trans y8)
            clear y8
            cases WR with
            | false =>
              have HREP : Hid (repS L (ldE blk pos (s : Int)) (r + 1) = repS L (ldE blk pos (s : Int)) r) := Lib.hid (by rw [HNX.out]; rfl)
              have HNN : Hid (∀ j, j < r + 1 → rep1 L (ldE blk pos (s : Int)) j = false) := Lib.hid (fun j hj => by
                by_cases e : j = r
                · rw [e]; exact HNO.out
                · exact HN.out j (by omega))
              go_wp2_with fail
              go_roundw
              case rel => exact ⟨r + 1, by omega, by go_num, by rw [HREP.out]; exact HBW.out.ext (HW5.out.2.2.1.trans (HZ.out)), HNN.out, HXQ.out.trans (HZ.out)⟩
              case measure => simp [intOf]; omega
            | true =>
              have HREP : Hid (repS L (ldE blk pos (s : Int)) (r + 1) = e.wr) := Lib.hid (by rw [HNX.out]; rfl)
              obtain ⟨d0, d1, d2, d3, d4, d5, d6, d7, d8, d9⟩ := (HW5.out.2.2.2.ext HZ.out).cells
              have HNN : Hid (∀ j, j < r + 1 → rep1 L (ldE blk pos (s : Int)) j = false) := Lib.hid (fun j hj => by
                by_cases e : j = r
                · rw [e]; exact HNO.out
                · exact HN.out j (by omega))
              go_wp2_with fail
              go_roundw
              case rel => exact ⟨r + 1, by omega, by go_num, by rw [HREP.out]; exact (HEA.out.ext HZ.out).wr, HNN.out, HXQ.out.trans (HZ.out)⟩
              case measure => simp [intOf]; omega
          | true =>
            obtain ⟨d0, d1, d2, d3, d4, d5, d6, d7, d8, d9⟩ := (HW5.out.2.2.2.ext HY7.out).cells
            go_wp2_with fail
            refine (bytesEq_any _ v.r _ e.rd (repS L (ldE blk pos (s : Int)) r) (HEA.out.ext HY7.out).rd (HBW.out.ext (HW5.out.2.2.1.trans HY7.out))).mono ?_
            rintro en w7 ⟨rfl, rfl⟩
            rw [HEB.out]
            clear d0 d1 d2 d3 d4 d5 d6 d7 d8 d9
            cases EB with
            | false =>
              have HF : Hid (repB L (ldE blk pos (s : Int)) = false) := Lib.hid (rep_hit hlt (by rw [HR2.out]; rfl))
              go_wp2_with fail
              go_ret
              exact ⟨by rw [HF.out]; rfl, HW.out.2.2.trans (HE4.out.trans (HXQ.out.trans HY7.out))⟩
            | true =>
              have HNO : Hid (rep1 L (ldE blk pos (s : Int)) r = false) := Lib.hid (by rw [HR2.out]; rfl)
              obtain ⟨d0, d1, d2, d3, d4, d5, d6, d7, d8, d9⟩ := (HW5.out.2.2.2.ext HY7.out).cells
              go_wp2_with fail
              refine (writes_any _ e v (HEA.out.ext (HY7.out))).mono ?_
              rintro en w8 ⟨rfl, y8⟩
              rw [HWR.out]
              clear d0 d1 d2 d3 d4 d5 d6 d7 d8 d9
              have HZ := Lib.hid ((HY7.out).trans y8)
              clear y8
              cases WR with
              | false =>
                have HREP : Hid (repS L (ldE blk pos (s : Int)) (r + 1) = repS L (ldE blk pos (s : Int)) r) := Lib.hid (by rw [HNX.out]; rfl)
                have HNN : Hid (∀ j, j < r + 1 → rep1 L (ldE blk pos (s : Int)) j = false) := Lib.hid (fun j hj => by
                  by_cases e : j = r
                  · rw [e]; exact HNO.out
                  · exact HN.out j (by omega))
                go_wp2_with fail
                go_roundw
                case rel => exact ⟨r + 1, by omega, by go_num, by rw [HREP.out]; exact HBW.out.ext (HW5.out.2.2.1.trans (HZ.out)), HNN.out, HXQ.out.trans (HZ.out)⟩
                case measure => simp [intOf]; omega
              | true =>
                have HREP : Hid (repS L (ldE blk pos (s : Int)) (r + 1) = e.wr) := Lib.hid (by rw [HNX.out]; rfl)
                obtain ⟨d0, d1, d2, d3, d4, d5, d6, d7, d8, d9⟩ := (HW5.out.2.2.2.ext HZ.out).cells
                have HNN : Hid (∀ j, j < r + 1 → rep1 L (ldE blk pos (s : Int)) j = false) := Lib.hid (fun j hj => by
                  by_cases e : j = r
                  · rw [e]; exact HNO.out
                  · exact HN.out j (by omega))
                go_wp2_with fail
                go_roundw
                case rel => exact ⟨r + 1, by omega, by go_num, by rw [HREP.out]; exact (HEA.out.ext HZ.out).wr, HNN.out, HXQ.out.trans (HZ.out)⟩
                case measure => simp [intOf]; omega
      · have hlt' : ¬ (r : Int) < (L.ev.length : Int) := by omega
        have hrn : r = L.ev.length := by omega
        have HT : Hid (repB L (ldE blk pos (s : Int)) = true) := Lib.hid (rep_yes HCL.out (by rw [← hrn]; exact HN.out))
        clear hrn
        go_wp2_with fail
        go_ret
        exact ⟨by rw [HT.out]; rfl, HW.out.2.2.trans (HE4.out.trans HX.out)⟩
set_option maxRecDepth 100000 in
set_option maxHeartbeats 1600000 in
theorem rreplay_any (w : World) (ve vp : Value) (V : Nat → Vs) (L : Lg) (h : LogIn w ve vp V L) (hsm : SmL L) (blk pos size : Int) (hb : I64 blk) (ha : I64 pos) (hs : I64 size) :
    Calls Try.prog 36 #[.agg #[ve, vp], .int .i64 blk, .int .i64 pos, .int .i64 size] w (FPost (repB L (ldE blk pos size)) w) := by
  have HBI := Lib.hid (And.intro hb (And.intro ha hs))
  have HSM := Lib.hid hsm
  clear hb ha hs hsm
  have q1 := Sl.cells_eq h.row
  have q2 := Sl.cells_eq h.prow
  have s1 := Sl.run_st (P := Try.prog) h.row
  have s2 := Sl.run_st (P := Try.prog) h.prow
  obtain ⟨w0, hw0⟩ : ∃ w0, w0 = w.alloc (.cells #[ve, vp] 30) := ⟨_, rfl⟩
  obtain ⟨g0, hg0⟩ : ∃ g, g = w.heap.size := ⟨_, rfl⟩
  have x0 : Ext w w0 := by rw [hw0]; exact (Mod.refl _ _).alloc _
  have b0 : RLogBox w0 g0 ve vp := ⟨by rw [hw0, hg0]; exact heap_alloc_new _ _⟩
  have HW := Lib.hid (And.intro hw0 (And.intro hg0 x0))
  have KE : Hid (∀ w', Ext w0 w' → LogIn w' ve vp V L ∧ RLogBox w' g0 ve vp) := Lib.hid fun w' x => ⟨h.ext (x0.trans x), b0.ext x⟩
  have HI := Lib.hid (h.row.run_idx (P := Try.prog) IRe.und IRe.size .i64)
  have HJ := Lib.hid (h.prow.run_idx (P := Try.prog) IP.und IP.size .i64)
  have l1 := h.row.run_len (P := Try.prog) IRe.und 3
  have l2 := h.prow.run_len (P := Try.prog) IP.und 3
  obtain ⟨c0, c1⟩ := b0.cells
  clear hw0 hg0 x0 b0 h
  go_enter Try.func36, Try.ntmps36
  go_upto_region 1 with fail
  rw [← HW.out.1, ← HW.out.2.1]
  clear s1 s2
  go_wp2_with fail
  refine (rclean_any _ ve vp V L (KE.out _ (Mod.refl _ _)).1 HSM.out blk pos size HBI.out.1 HBI.out.2.1 HBI.out.2.2).mono ?_
  rintro e w2 ⟨rfl, y1⟩
  clear c0 c1
  have HY1 := Lib.hid y1
  clear y1
  cases hc : cleanB L (ldE blk pos size) with
  | false =>
    have HC : Hid (repB L (ldE blk pos size) = false) := Lib.hid (rep_no hc)
    clear hc
    go_wp2_with fail
    go_ret
    exact ⟨by rw [HC.out]; rfl, HW.out.2.2.trans HY1.out⟩
  | true =>
    have hle : (L.ev.length : Int) ≤ 1000 := by have := (mayL_iff.1 (clean_facts hc).1).1.1; omega
    obtain ⟨s, hsz⟩ : ∃ s : Nat, size = (s : Int) := ⟨size.toNat, by have := goodB_le (clean_facts hc).2; show size = _; change 1 ≤ size ∧ size ≤ 8 at this; omega⟩
    have hs8 : s ≤ 8 := by have := goodB_le (clean_facts hc).2; change 1 ≤ size ∧ size ≤ 8 at this; omega
    subst hsz
    have HSZ := Lib.hid hs8
    have m1 := run_make_row' (P := Try.prog) 42 5 (.int .u8 0) 1 IB.und IB.info rfl .i64 .i64 s (by omega) (by omega)
    have HCL := Lib.hid hc
    clear hc hs8
    obtain ⟨c0, c1⟩ := (KE.out _ HY1.out).2.cells
    obtain ⟨w3, hw3⟩ : ∃ w3, w3 = w2.alloc (.cells #[.int .i64 0, .int .i64 1, .bool false, .bool false, .int .i64 blk, .int .i64 pos, .int .i64 (s : Int), .slice none 0 0, .slice none 0 0, .slice none 0 0] 67) := ⟨_, rfl⟩
    obtain ⟨g3, hg3⟩ : ∃ g, g = w2.heap.size := ⟨_, rfl⟩
    have x3 : Ext w2 w3 := by rw [hw3]; exact (Mod.refl _ _).alloc _
    have b3 : REvBox w3 g3 (ldE blk pos (s : Int)) nilV := ⟨by rw [hw3, hg3]; exact heap_alloc_new _ _⟩
    have HW3 := Lib.hid (And.intro hw3 hg3)
    have HX3 := Lib.hid (HY1.out.trans x3)
    have KX : Hid (∀ w', Ext w3 w' → EvAt w' (ldE blk pos (s : Int)) nilV ∧ REvBox w' g3 (ldE blk pos (s : Int)) nilV) := Lib.hid fun w' x => ⟨nil_ev w' HBI.out.1 HBI.out.2.1 HBI.out.2.2, b3.ext x⟩
    clear hw3 hg3 x3 b3 c0 c1
    go_upto_region 4 with fail
    rw [← HW3.out.1, ← HW3.out.2]
    obtain ⟨c0, c1⟩ := (KE.out _ HX3.out).2.cells
    go_wp2_with fail
    clear c0 c1
    go_loopw [10, 11] (fun s10 sr wr => ∃ r : Nat, r ≤ L.ev.length ∧ sr = .int .i64 (r : Int) ∧ s10 = .int .u64 ((wordN (repS L (ldE blk pos (s : Int)) r) : Nat) : Int) ∧ (∀ j, j < r → rep1 L (ldE blk pos (s : Int)) j = false) ∧ Ext w3 wr) (fun _ s _ => L.ev.length - (intOf s).toNat)
    case atStart => exact ⟨0, Nat.zero_le _, rfl, by rw [rep_zero]; rfl, fun j hj => absurd hj (Nat.not_lt_zero _), Mod.refl _ _⟩
    case round =>
      obtain ⟨r, hr, rfl, rfl, hn, xx⟩ := hrel
      have HN := Lib.hid hn
      have HX := Lib.hid xx
      obtain ⟨M, hM⟩ : ∃ M, M = wordN (repS L (ldE blk pos (s : Int)) r) := ⟨_, rfl⟩
      rw [← hM]
      have HMM := Lib.hid hM.symm
      clear hM
      obtain ⟨l0, l1'⟩ := (KE.out _ (HX3.out.trans xx)).2.cells
      clear hn xx
      by_cases hlt : r < L.ev.length
      · have hlt' : (r : Int) < (L.ev.length : Int) := by omega
        have i0 := HI.out r hlt
        have hlg := (KE.out _ (HX3.out.trans HX.out)).1
        obtain ⟨c0, c1, c2, c3, c4, c5, c6, c7, c8, c9⟩ := hlg.cells hlt
        have hea := hlg.ev r hlt
        obtain ⟨e, he⟩ : ∃ e, e = evn L.ev r := ⟨_, rfl⟩
        obtain ⟨v, hv⟩ : ∃ v, v = V r := ⟨_, rfl⟩
        obtain ⟨A, hA⟩ : ∃ A, A = at_ ve (r * 10) := ⟨_, rfl⟩
        rw [← hA] at i0 c0 c1 c2 c3 c4 c5 c6 c7 c8 c9
        rw [← he] at c0 c1 c2 c3 c4 c5 c6 hea
        rw [← hv] at c7 c8 c9 hea
        obtain ⟨k1, k2, k3, t1, t2, t3⟩ := ev_facts hea
        obtain ⟨w5, hw5⟩ : ∃ w5, w5 = wr.alloc (.cells (evArr e v) 67) := ⟨_, rfl⟩
        obtain ⟨g5, hg5⟩ : ∃ g, g = wr.heap.size := ⟨_, rfl⟩
        have x5 : Ext wr w5 := by rw [hw5]; exact (Mod.refl _ _).alloc _
        have b5 : REvBox w5 g5 e v := ⟨by rw [hw5, hg5]; exact heap_alloc_new _ _⟩
        have HEA := Lib.hid (hea.ext x5)
        have HE := Lib.hid (And.intro he hv)
        have HW5 := Lib.hid (And.intro hw5 (And.intro hg5 (And.intro x5 b5)))
        have l5 := hea.fr.sl.run_len (P := Try.prog) II.und 3
        have J5 := Lib.hid (hea.fr.sl.run_idx (P := Try.prog) II.und II.size .i64)
        obtain ⟨d0, d1, d2, d3, d4, d5, d6, d7, d8, d9⟩ := b5.cells
        clear hlg hea he hv hA hw5 hg5 x5 b5
        go_upto_region 9 with fail
        rw [← HW5.out.1, ← HW5.out.2.1]
        clear c0 c1 c2 c3 c4 c5 c6 c7 c8 c9 t1 t2 t3 i0
        clear l0 l1'
        have HXQ := Lib.hid (HX.out.trans HW5.out.2.2.1)
        obtain ⟨Q, hQ⟩ : ∃ O, O = evEq e (ldE blk pos (s : Int)) := ⟨_, rfl⟩
        obtain ⟨RD, hRD⟩ : ∃ O, O = rdsB e := ⟨_, rfl⟩
        obtain ⟨WR, hWR⟩ : ∃ O, O = wrsB e := ⟨_, rfl⟩
        obtain ⟨EB, hEB⟩ : ∃ O, O = (e.rd == repS L (ldE blk pos (s : Int)) r) := ⟨_, rfl⟩
        have HQ := Lib.hid hQ.symm
        have HRD := Lib.hid hRD.symm
        have HWR := Lib.hid hWR.symm
        have HEB := Lib.hid hEB.symm
        have HR1 : Hid (Q = true → rep1 L (ldE blk pos (s : Int)) r = (RD && !EB)) := Lib.hid fun h => rep1_of (by rw [← HE.out.1, ← hQ]; exact h) (by rw [← HE.out.1, ← hRD]) (by rw [← HE.out.1, ← hEB])
        clear hQ hRD hWR hEB
        obtain ⟨a0, a1, a2, a3, a4, a5, a6, a7, a8, a9⟩ := (KX.out _ (HXQ.out)).2.cells
        go_wp2_with fail
        refine (requal_any _ e (ldE blk pos (s : Int)) v nilV HEA.out (KX.out _ (HXQ.out)).1).mono ?_
        rintro en w6 ⟨rfl, y6⟩
        rw [HQ.out]
        clear d0 d1 d2 d3 d4 d5 d6 d7 d8 d9
        clear a0 a1 a2 a3 a4 a5 a6 a7 a8 a9
        have HY6 := Lib.hid y6
        clear y6
        cases Q with
        | false =>
          have HNO : Hid (rep1 L (ldE blk pos (s : Int)) r = false) := Lib.hid (rep_skip (by rw [← HE.out.1]; exact HQ.out)).1
          have HREP : Hid (repS L (ldE blk pos (s : Int)) (r + 1) = repS L (ldE blk pos (s : Int)) r) := Lib.hid (rep_skip (by rw [← HE.out.1]; exact HQ.out)).2
          have HNN : Hid (∀ j, j < r + 1 → rep1 L (ldE blk pos (s : Int)) j = false) := Lib.hid (fun j hj => by
            by_cases e : j = r
            · rw [e]; exact HNO.out
            · exact HN.out j (by omega))
          go_wp2_with fail
          go_roundw
          case rel => exact ⟨r + 1, by omega, by go_num, by rw [HREP.out, HMM.out], HNN.out, HXQ.out.trans (HY6.out)⟩
          case measure => simp [intOf]; omega
        | true =>
          have HR2 := Lib.hid (HR1.out rfl)
          clear HR1
          have HNX : Hid (repS L (ldE blk pos (s : Int)) (r + 1) = if WR = true then e.wr else repS L (ldE blk pos (s : Int)) r) := Lib.hid (by have h := rep_next (L := L) (x := (ldE blk pos (s : Int))) (r := r) (by rw [← HE.out.1]; exact HQ.out); rw [h, ← HE.out.1, HWR.out])
          obtain ⟨d0, d1, d2, d3, d4, d5, d6, d7, d8, d9⟩ := (HW5.out.2.2.2.ext HY6.out).cells
          go_wp2_with fail
          refine (rreads_any _ e v (HEA.out.ext HY6.out)).mono ?_
          rintro en w7 ⟨rfl, y7⟩
          rw [HRD.out]
          clear d0 d1 d2 d3 d4 d5 d6 d7 d8 d9
          have HY7 := Lib.hid (HY6.out.trans y7)
          clear y7
          cases RD with
          | false =>
            have HNO : Hid (rep1 L (ldE blk pos (s : Int)) r = false) := Lib.hid (by rw [HR2.out]; rfl)
            obtain ⟨d0, d1, d2, d3, d4, d5, d6, d7, d8, d9⟩ := (HW5.out.2.2.2.ext HY7.out).cells
            go_wp2_with fail
            refine (rwrites_any _ e v (HEA.out.ext (HY7.out))).mono ?_
            rintro en w8 ⟨rfl, y8⟩
            rw [HWR.out]
            clear d0 d1 d2 d3 d4 d5 d6 d7 d8 d9
            have HZ := Lib.hid ((HY7.out).trans y8)
            clear y8
            cases WR with
            | false =>
              have HREP : Hid (repS L (ldE blk pos (s : Int)) (r + 1) = repS L (ldE blk pos (s : Int)) r) := Lib.hid (by rw [HNX.out]; rfl)
              have HNN : Hid (∀ j, j < r + 1 → rep1 L (ldE blk pos (s : Int)) j = false) := Lib.hid (fun j hj => by
                by_cases e : j = r
                · rw [e]; exact HNO.out
                · exact HN.out j (by omega))
              go_wp2_with fail
              go_roundw
              case rel => exact ⟨r + 1, by omega, by go_num, by rw [HREP.out, HMM.out], HNN.out, HXQ.out.trans (HZ.out)⟩
              case measure => simp [intOf]; omega
            | true =>
              have HREP : Hid (repS L (ldE blk pos (s : Int)) (r + 1) = e.wr) := Lib.hid (by rw [HNX.out]; rfl)
              obtain ⟨d0, d1, d2, d3, d4, d5, d6, d7, d8, d9⟩ := (HW5.out.2.2.2.ext HZ.out).cells
              go_wp2_with fail
              refine (rword_any _ v.w e.wr (HEA.out.ext HZ.out).wr (by rw [HE.out.1]; exact (wr_len HCL.out hlt).1)).mono ?_
              rintro en w9 ⟨rfl, rfl⟩
              clear d0 d1 d2 d3 d4 d5 d6 d7 d8 d9
              have HNN : Hid (∀ j, j < r + 1 → rep1 L (ldE blk pos (s : Int)) j = false) := Lib.hid (fun j hj => by
                by_cases e : j = r
                · rw [e]; exact HNO.out
                · exact HN.out j (by omega))
              go_wp2_with fail
              go_roundw
              case rel => exact ⟨r + 1, by omega, by go_num, by rw [HREP.out], HNN.out, HXQ.out.trans (HZ.out)⟩
              case measure => simp [intOf]; omega
          | true =>
            obtain ⟨d0, d1, d2, d3, d4, d5, d6, d7, d8, d9⟩ := (HW5.out.2.2.2.ext HY7.out).cells
            have HWD : Hid ((((wordN e.rd : Nat) : Int) != (M : Int)) = !EB) := Lib.hid (by have h := rep_word HCL.out hlt (by rw [← HE.out.1]; exact HQ.out) (by rw [← HE.out.1]; exact HRD.out); rw [← HE.out.1, HMM.out, HEB.out] at h; exact h)
            obtain ⟨E1, hE1⟩ : ∃ E1, E1 = wordN e.rd := ⟨_, rfl⟩
            have HE1 := Lib.hid hE1.symm
            clear hE1
            go_wp2_with fail
            refine (rword_any _ v.r e.rd (HEA.out.ext HY7.out).rd (by rw [HE.out.1]; exact (wr_len HCL.out hlt).2)).mono ?_
            rintro en w7 ⟨rfl, rfl⟩
            rw [HE1.out]
            clear d0 d1 d2 d3 d4 d5 d6 d7 d8 d9
            have hwd := HWD.out
            rw [HE1.out] at hwd
            cases EB with
            | false =>
              have HF : Hid (repB L (ldE blk pos (s : Int)) = false) := Lib.hid (rep_hit hlt (by rw [HR2.out]; rfl))
              simp only [Bool.not_false] at hwd
              go_wp2_with fail
              go_ret
              exact ⟨by rw [HF.out]; rfl, HW.out.2.2.trans (HX3.out.trans (HXQ.out.trans HY7.out))⟩
            | true =>
              have HNO : Hid (rep1 L (ldE blk pos (s : Int)) r = false) := Lib.hid (by rw [HR2.out]; rfl)
              simp only [Bool.not_true] at hwd
              obtain ⟨d0, d1, d2, d3, d4, d5, d6, d7, d8, d9⟩ := (HW5.out.2.2.2.ext HY7.out).cells
              go_wp2_with fail
              refine (rwrites_any _ e v (HEA.out.ext (HY7.out))).mono ?_
              rintro en w8 ⟨rfl, y8⟩
              rw [HWR.out]
              clear d0 d1 d2 d3 d4 d5 d6 d7 d8 d9
              have HZ := Lib.hid ((HY7.out).trans y8)
              clear y8
              cases WR with
              | false =>
                have HREP : Hid (repS L (ldE blk pos (s : Int)) (r + 1) = repS L (ldE blk pos (s : Int)) r) := Lib.hid (by rw [HNX.out]; rfl)
                have HNN : Hid (∀ j, j < r + 1 → rep1 L (ldE blk pos (s : Int)) j = false) := Lib.hid (fun j hj => by
                  by_cases e : j = r
                  · rw [e]; exact HNO.out
                  · exact HN.out j (by omega))
                go_wp2_with fail
                go_roundw
                case rel => exact ⟨r + 1, by omega, by go_num, by rw [HREP.out, HMM.out], HNN.out, HXQ.out.trans (HZ.out)⟩
                case measure => simp [intOf]; omega
              | true =>
                have HREP : Hid (repS L (ldE blk pos (s : Int)) (r + 1) = e.wr) := Lib.hid (by rw [HNX.out]; rfl)
                obtain ⟨d0, d1, d2, d3, d4, d5, d6, d7, d8, d9⟩ := (HW5.out.2.2.2.ext HZ.out).cells
                go_wp2_with fail
                refine (rword_any _ v.w e.wr (HEA.out.ext HZ.out).wr (by rw [HE.out.1]; exact (wr_len HCL.out hlt).1)).mono ?_
                rintro en w9 ⟨rfl, rfl⟩
                clear d0 d1 d2 d3 d4 d5 d6 d7 d8 d9
                have HNN : Hid (∀ j, j < r + 1 → rep1 L (ldE blk pos (s : Int)) j = false) := Lib.hid (fun j hj => by
                  by_cases e : j = r
                  · rw [e]; exact HNO.out
                  · exact HN.out j (by omega))
                go_wp2_with fail
                go_roundw
                case rel => exact ⟨r + 1, by omega, by go_num, by rw [HREP.out], HNN.out, HXQ.out.trans (HZ.out)⟩
                case measure => simp [intOf]; omega
      · have hlt' : ¬ (r : Int) < (L.ev.length : Int) := by omega
        have hrn : r = L.ev.length := by omega
        have HT : Hid (repB L (ldE blk pos (s : Int)) = true) := Lib.hid (rep_yes HCL.out (by rw [← hrn]; exact HN.out))
        clear hrn
        go_wp2_with fail
        go_ret
        exact ⟨by rw [HT.out]; rfl, HW.out.2.2.trans (HX3.out.trans HX.out)⟩
end Go.Proofs.Ythmkcgiiakinmaa
