/-
  ModelSeq: the walk of renlaw16.ModelSeq. No condition.
-/
import Derived.Test.YthmkcgiiakinmaaModFst
import Derived.Test.YthmkcgiiakinmaaModLaws
namespace Go.Proofs.Ythmkcgiiakinmaa
open Go.Ren Go.RowKit
set_option linter.unusedVariables false
set_option maxRecDepth 100000 in
set_option maxHeartbeats 1600000 in
theorem modelSeq_all (w : World) (ve vp : Value) (V : Nat → Vs) (L : Lg) (h : LogIn w ve vp V L) :
    Calls Try.prog 11 #[.agg #[ve, vp]] w (FPost true w) := by
  have q1 := Sl.cells_eq h.row
  have q2 := Sl.cells_eq h.prow
  have s1 := Sl.run_st (P := Try.prog) h.row
  have s2 := Sl.run_st (P := Try.prog) h.prow
  obtain ⟨w0, hw0⟩ : ∃ w0, w0 = w.alloc (.cells #[ve, vp] 25) := ⟨_, rfl⟩
  obtain ⟨g0, hg0⟩ : ∃ g, g = w.heap.size := ⟨_, rfl⟩
  have x0 : Ext w w0 := by rw [hw0]; exact (Mod.refl _ _).alloc _
  have b0 : LogBox w0 g0 ve vp := ⟨by rw [hw0, hg0]; exact heap_alloc_new _ _⟩
  have HW := Lib.hid (And.intro hw0 (And.intro hg0 x0))
  have KE : Hid (∀ w', Ext w0 w' → LogIn w' ve vp V L ∧ LogBox w' g0 ve vp) := Lib.hid fun w' x => ⟨h.ext (x0.trans x), b0.ext x⟩
  have HI := Lib.hid (h.row.run_idx (P := Try.prog) IEv.und IEv.size .i64)
  have HJ := Lib.hid (h.prow.run_idx (P := Try.prog) IP.und IP.size .i64)
  have l1 := h.row.run_len (P := Try.prog) IEv.und 3
  have l2 := h.prow.run_len (P := Try.prog) IP.und 3
  clear hw0 hg0 x0 b0 h
  go_enter Try.func11, Try.ntmps11
  go_upto_region 1 with fail
  rw [← HW.out.1, ← HW.out.2.1]
  clear s1 s2
  go_wp2_with fail
  refine (first16_any _).mono ?_
  rintro e w1 ⟨rfl, x1⟩
  obtain ⟨c0, c1⟩ := (KE.out _ x1).2.cells
  go_wp2_with fail
  refine (few_any _ _ _ V L (KE.out _ x1).1 40 (by decide)).mono ?_
  rintro r w2 ⟨⟨r, rfl, hf⟩, y2⟩
  have X2 : Ext w0 w2 := x1.trans y2
  clear c0 c1
  obtain ⟨c0, c1⟩ := (KE.out _ X2).2.cells
  cases r with
  | false =>
    clear hf
    go_wp2_with fail
    refine (first16_any _).mono ?_
    rintro e w3 ⟨rfl, x3⟩
    go_wp2_with fail
    go_ret
    exact ⟨rfl, (HW.out.2.2.trans X2).trans x3⟩
  | true =>
    have HS : Hid (L.ev.length ≤ 40 ∧ L.pr.length ≤ 40 ∧ ∀ i, i < L.ev.length → (evn L.ev i).rd.length ≤ 20000 ∧ (evn L.ev i).wr.length ≤ 20000 ∧ (evn L.ev i).fr.length ≤ 20000) := Lib.hid (hf rfl)
    have hle : (L.ev.length : Int) ≤ 40 := by have := HS.out.1; omega
    have hle2 : (L.pr.length : Int) ≤ 40 := by have := HS.out.2.1; omega
    clear hf
    go_wp2_with fail
    refine (may_any _ ve vp V L (KE.out _ X2).1).mono ?_
    rintro e w3 ⟨rfl, y3⟩
    have X3 : Ext w0 w3 := X2.trans y3
    clear c0 c1
    obtain ⟨c0, c1⟩ := (KE.out _ X3).2.cells
    cases hm : mayL L with
    | false =>
      clear hm
      go_wp2_with fail
      refine (first16_any _).mono ?_
      rintro e w4 ⟨rfl, x4⟩
      go_wp2_with fail
      go_ret
      exact ⟨rfl, (HW.out.2.2.trans X3).trans x4⟩
    | true =>
      have HM := Lib.hid hm
      clear hm
      have HX3 := Lib.hid X3
      have HOR : Hid (ordI L (natL L) = -1) := Lib.hid (by unfold ordI; rw [nat_ordB HM.out]; rfl)
      have KL : Hid (∀ w', Ext w3 w' → w'.cell? ⟨g0, 0, none⟩ = some ve ∧ w'.cell? ⟨g0, 1, none⟩ = some vp) := Lib.hid fun w' x => (KE.out _ (HX3.out.trans x)).2.cells
      go_wp2_with fail
      clear c0 c1
      go_loopw [3, 4, 5] (fun s3 s4 s5 wr => ∃ i : Nat, i ≤ L.ev.length ∧ s3 = .bool (anyB (fun i => (evn L.ev i).seq) i) ∧ s4 = .bool (anyB (eqP L) i) ∧ s5 = .int .i64 (i : Int) ∧ Ext w3 wr) (fun _ _ s _ => L.ev.length - (intOf s).toNat)
      case atStart => exact ⟨0, Nat.zero_le _, rfl, rfl, rfl, Mod.refl _ _⟩
      case round =>
        obtain ⟨i, hi, rfl, rfl, rfl, xx⟩ := hrel
        have XW := Lib.hid xx
        obtain ⟨c0, c1⟩ := KL.out _ xx
        obtain ⟨SQ, hSQ⟩ : ∃ B, B = anyB (fun i => (evn L.ev i).seq) i := ⟨_, rfl⟩
        obtain ⟨EQ, hEQ⟩ : ∃ B, B = anyB (eqP L) i := ⟨_, rfl⟩
        rw [← hSQ, ← hEQ]
        by_cases hlt : i < L.ev.length
        · have hlt' : (i : Int) < (L.ev.length : Int) := by omega
          have i0 := HI.out i hlt
          have cs := ((KE.out _ (HX3.out.trans xx)).1.cells hlt).2.2.1
          obtain ⟨SI, hSI⟩ : ∃ S, S = (evn L.ev i).seq := ⟨_, rfl⟩
          rw [← hSI] at cs
          obtain ⟨A0, hA0⟩ : ∃ A, A = at_ ve (i * 10) := ⟨_, rfl⟩
          rw [← hA0] at i0 cs
          have N1 : Hid (anyB (fun i => (evn L.ev i).seq) (i + 1) = (SQ || SI)) := Lib.hid (by rw [anyB_succ, ← hSQ, hSI])
          have N2 : Hid (anyB (eqP L) (i + 1) = (EQ || anyB (fun k => evEq (evn L.ev i) (evn L.ev k)) i)) := Lib.hid (by rw [anyB_succ, ← hEQ]; rfl)
          have HA0 := Lib.hid hA0
          clear hSQ hEQ hSI hA0 xx
          go_upto_region 9 with fail
          go_cut [3] (fun s3 wq => s3 = .bool (SQ || SI) ∧ wq = wr)
          case first =>
            cases SQ with
            | false =>
              go_wp2_with fail
              go_meet
              exact ⟨rfl, rfl⟩
            | true =>
              go_wp2_with fail
              go_meet
              exact ⟨rfl, rfl⟩
          case rest =>
            obtain ⟨rfl, rfl⟩ := hcut
            go_wp2_with fail
            clear c0 c1 cs i0
            go_loopw [4, 6] (fun s4 s6 wq => ∃ k : Nat, k ≤ i ∧ s4 = .bool (EQ || anyB (fun k => evEq (evn L.ev i) (evn L.ev k)) k) ∧ s6 = .int .i64 (k : Int) ∧ Ext w3 wq) (fun _ s _ => i - (intOf s).toNat)
            case atStart => exact ⟨0, Nat.zero_le _, by simp [anyB], rfl, XW.out⟩
            case round =>
              obtain ⟨k, hk, rfl, rfl, xq⟩ := hrel
              have XW2 := Lib.hid xq
              by_cases hki : k < i
              · have hki' : (k : Int) < (i : Int) := by omega
                have hkl : k < L.ev.length := by omega
                have i0 := HI.out i hlt
                have i1 := HI.out k hkl
                obtain ⟨x, hx⟩ : ∃ e, e = evn L.ev i := ⟨_, rfl⟩
                obtain ⟨u, hu⟩ : ∃ v, v = V i := ⟨_, rfl⟩
                obtain ⟨y, hy⟩ : ∃ e, e = evn L.ev k := ⟨_, rfl⟩
                obtain ⟨v, hv⟩ : ∃ v, v = V k := ⟨_, rfl⟩
                obtain ⟨A1, hA1⟩ : ∃ A, A = at_ ve (i * 10) := ⟨_, rfl⟩
                obtain ⟨A2, hA2⟩ : ∃ A, A = at_ ve (k * 10) := ⟨_, rfl⟩
                rw [← hA1] at i0
                rw [← hA2] at i1
                have KV : Hid (∀ w', Ext w3 w' → EvAt w' x u ∧ EvAt w' y v) := Lib.hid fun w' z => by rw [hx, hu, hy, hv]; exact ⟨(KE.out _ (HX3.out.trans z)).1.ev i hlt, (KE.out _ (HX3.out.trans z)).1.ev k hkl⟩
                have KF : Hid (∀ w', Ext w3 w' → w'.cell? ⟨g0, 0, none⟩ = some ve ∧ w'.cell? A1 = some (.int .i64 (x).ag) ∧ w'.cell? ⟨A1.block, A1.off + 1, none⟩ = some (.int .i64 (x).kind) ∧ w'.cell? ⟨A1.block, A1.off + 2, none⟩ = some (.bool (x).seq) ∧ w'.cell? ⟨A1.block, A1.off + 3, none⟩ = some (.bool (x).nt) ∧ w'.cell? ⟨A1.block, A1.off + 4, none⟩ = some (.int .i64 (x).blk) ∧ w'.cell? ⟨A1.block, A1.off + 5, none⟩ = some (.int .i64 (x).at_) ∧ w'.cell? ⟨A1.block, A1.off + 6, none⟩ = some (.int .i64 (x).size) ∧ w'.cell? ⟨A1.block, A1.off + 7, none⟩ = some u.r ∧ w'.cell? ⟨A1.block, A1.off + 8, none⟩ = some u.w ∧ w'.cell? ⟨A1.block, A1.off + 9, none⟩ = some u.f ∧ w'.cell? A2 = some (.int .i64 (y).ag) ∧ w'.cell? ⟨A2.block, A2.off + 1, none⟩ = some (.int .i64 (y).kind) ∧ w'.cell? ⟨A2.block, A2.off + 2, none⟩ = some (.bool (y).seq) ∧ w'.cell? ⟨A2.block, A2.off + 3, none⟩ = some (.bool (y).nt) ∧ w'.cell? ⟨A2.block, A2.off + 4, none⟩ = some (.int .i64 (y).blk) ∧ w'.cell? ⟨A2.block, A2.off + 5, none⟩ = some (.int .i64 (y).at_) ∧ w'.cell? ⟨A2.block, A2.off + 6, none⟩ = some (.int .i64 (y).size) ∧ w'.cell? ⟨A2.block, A2.off + 7, none⟩ = some v.r ∧ w'.cell? ⟨A2.block, A2.off + 8, none⟩ = some v.w ∧ w'.cell? ⟨A2.block, A2.off + 9, none⟩ = some v.f) := Lib.hid fun w' z => by
                  have h1 := KE.out _ (HX3.out.trans z)
                  have h2 := h1.1.cells hlt
                  have h3 := h1.1.cells hkl
                  rw [← hx, ← hu, ← hA1] at h2
                  rw [← hy, ← hv, ← hA2] at h3
                  obtain ⟨a0, a1, a2, a3, a4, a5, a6, a7, a8, a9⟩ := h2
                  exact ⟨h1.2.cells.1, a0, a1, a2, a3, a4, a5, a6, a7, a8, a9, h3⟩
                obtain ⟨k1, k2, k3, -⟩ := ev_facts (KV.out _ xq).1
                obtain ⟨k4, k5, k6, -⟩ := ev_facts (KV.out _ xq).2
                obtain ⟨Q, hQ⟩ : ∃ Q, Q = evEq x y := ⟨_, rfl⟩
                have HQ := Lib.hid hQ.symm
                obtain ⟨EI, hEI⟩ : ∃ E, E = (EQ || anyB (fun k => evEq (evn L.ev i) (evn L.ev k)) k) := ⟨_, rfl⟩
                rw [← hEI]
                have NI : Hid ((EQ || anyB (fun k => evEq (evn L.ev i) (evn L.ev k)) (k + 1)) = (EI || Q)) := Lib.hid (by rw [anyB_succ, ← Bool.or_assoc, ← hEI, hQ, hx, hy])
                clear hx hu hy hv hA1 hA2 hQ hEI xq
                go_upto_region 13 with fail
                cases EI with
                | false =>
                  refine wp_region_plan [(0, true), (1, true), (2, true), (3, true), (4, true), (5, true), (6, true), (7, true), (8, true), (9, true), (10, true), (11, true), (12, false), (13, true), (14, true)] (fun w' => w'.cell? ⟨g0, 0, none⟩ = some ve ∧ w'.cell? A1 = some (.int .i64 (x).ag) ∧ w'.cell? ⟨A1.block, A1.off + 1, none⟩ = some (.int .i64 (x).kind) ∧ w'.cell? ⟨A1.block, A1.off + 2, none⟩ = some (.bool (x).seq) ∧ w'.cell? ⟨A1.block, A1.off + 3, none⟩ = some (.bool (x).nt) ∧ w'.cell? ⟨A1.block, A1.off + 4, none⟩ = some (.int .i64 (x).blk) ∧ w'.cell? ⟨A1.block, A1.off + 5, none⟩ = some (.int .i64 (x).at_) ∧ w'.cell? ⟨A1.block, A1.off + 6, none⟩ = some (.int .i64 (x).size) ∧ w'.cell? ⟨A1.block, A1.off + 7, none⟩ = some u.r ∧ w'.cell? ⟨A1.block, A1.off + 8, none⟩ = some u.w ∧ w'.cell? ⟨A1.block, A1.off + 9, none⟩ = some u.f ∧ w'.cell? A2 = some (.int .i64 (y).ag) ∧ w'.cell? ⟨A2.block, A2.off + 1, none⟩ = some (.int .i64 (y).kind) ∧ w'.cell? ⟨A2.block, A2.off + 2, none⟩ = some (.bool (y).seq) ∧ w'.cell? ⟨A2.block, A2.off + 3, none⟩ = some (.bool (y).nt) ∧ w'.cell? ⟨A2.block, A2.off + 4, none⟩ = some (.int .i64 (y).blk) ∧ w'.cell? ⟨A2.block, A2.off + 5, none⟩ = some (.int .i64 (y).at_) ∧ w'.cell? ⟨A2.block, A2.off + 6, none⟩ = some (.int .i64 (y).size) ∧ w'.cell? ⟨A2.block, A2.off + 7, none⟩ = some v.r ∧ w'.cell? ⟨A2.block, A2.off + 8, none⟩ = some v.w ∧ w'.cell? ⟨A2.block, A2.off + 9, none⟩ = some v.f) (by kernel_rfl) (by kernel_rfl) (by kernel_rfl) (fun _ d _ _ _ h => by cases d <;> exact h) (KF.out _ (XW2.out.trans (Mod.drew (Mod.refl _ _)))) ?_
                  simp only [planL, getO]
                  iterate 12 (refine plan_take (v := ?_) (by rfl) (fun wS hS => ?_) ?_; rotate_left; (focus ((try dsimp only at hS); go_simp; (try with_reducible rfl); done)); (try simp only [Act.put, List.setIfInBounds_toArray, List.set_cons_zero, List.set_cons_succ]))
                  refine plan_call (fun K hK => ?_)
                  go_simp
                  go_at_call 30; refine (equal_any _ x y u v (KV.out _ (XW2.out.trans (Mod.drew (Mod.refl _ _)))).1 (KV.out _ (XW2.out.trans (Mod.drew (Mod.refl _ _)))).2).mono ?_; rintro en w6 ⟨rfl, y6⟩; have E6 : Ext w3 w6 := (XW2.out.trans (Mod.drew (Mod.refl _ _))).trans y6; rw [HQ.out]
                  refine hK.out _ _ (KF.out _ E6) ?_
                  clear hK K
                  (try simp only [Act.put, List.setIfInBounds_toArray, List.set_cons_zero, List.set_cons_succ])
                  iterate 2 (refine plan_take (v := ?_) (by rfl) (fun wS hS => ?_) ?_; rotate_left; (focus ((try dsimp only at hS); go_simp; (try with_reducible rfl); done)); (try simp only [Act.put, List.setIfInBounds_toArray, List.set_cons_zero, List.set_cons_succ]))
                  refine plan_nil ?_
                  go_wp2_with fail
                  go_roundw
                  case rel => exact ⟨k + 1, by omega, by rw [NI.out]; rfl, by go_num, E6⟩
                  case measure => simp [intOf]; omega
                | true =>
                  refine wp_region_plan [(0, true), (1, true), (2, true), (3, true), (4, true), (5, true), (6, true), (7, true), (8, true), (9, true), (10, true), (11, true), (12, false), (13, true), (14, true)] (fun w' => w'.cell? ⟨g0, 0, none⟩ = some ve ∧ w'.cell? A1 = some (.int .i64 (x).ag) ∧ w'.cell? ⟨A1.block, A1.off + 1, none⟩ = some (.int .i64 (x).kind) ∧ w'.cell? ⟨A1.block, A1.off + 2, none⟩ = some (.bool (x).seq) ∧ w'.cell? ⟨A1.block, A1.off + 3, none⟩ = some (.bool (x).nt) ∧ w'.cell? ⟨A1.block, A1.off + 4, none⟩ = some (.int .i64 (x).blk) ∧ w'.cell? ⟨A1.block, A1.off + 5, none⟩ = some (.int .i64 (x).at_) ∧ w'.cell? ⟨A1.block, A1.off + 6, none⟩ = some (.int .i64 (x).size) ∧ w'.cell? ⟨A1.block, A1.off + 7, none⟩ = some u.r ∧ w'.cell? ⟨A1.block, A1.off + 8, none⟩ = some u.w ∧ w'.cell? ⟨A1.block, A1.off + 9, none⟩ = some u.f ∧ w'.cell? A2 = some (.int .i64 (y).ag) ∧ w'.cell? ⟨A2.block, A2.off + 1, none⟩ = some (.int .i64 (y).kind) ∧ w'.cell? ⟨A2.block, A2.off + 2, none⟩ = some (.bool (y).seq) ∧ w'.cell? ⟨A2.block, A2.off + 3, none⟩ = some (.bool (y).nt) ∧ w'.cell? ⟨A2.block, A2.off + 4, none⟩ = some (.int .i64 (y).blk) ∧ w'.cell? ⟨A2.block, A2.off + 5, none⟩ = some (.int .i64 (y).at_) ∧ w'.cell? ⟨A2.block, A2.off + 6, none⟩ = some (.int .i64 (y).size) ∧ w'.cell? ⟨A2.block, A2.off + 7, none⟩ = some v.r ∧ w'.cell? ⟨A2.block, A2.off + 8, none⟩ = some v.w ∧ w'.cell? ⟨A2.block, A2.off + 9, none⟩ = some v.f) (by kernel_rfl) (by kernel_rfl) (by kernel_rfl) (fun _ d _ _ _ h => by cases d <;> exact h) (KF.out _ (XW2.out.trans (Mod.drew (Mod.refl _ _)))) ?_
                  simp only [planL, getO]
                  iterate 2 (refine plan_take (v := ?_) (by rfl) (fun wS hS => ?_) ?_; rotate_left; (focus ((try dsimp only at hS); go_simp; (try with_reducible rfl); done)); (try simp only [Act.put, List.setIfInBounds_toArray, List.set_cons_zero, List.set_cons_succ]))
                  iterate 10 (refine plan_skip (by rfl) ?_; (try simp only [Act.put, List.setIfInBounds_toArray, List.set_cons_zero, List.set_cons_succ]))
                  (refine plan_skip (by rfl) ?_; (try simp only [Act.put, List.setIfInBounds_toArray, List.set_cons_zero, List.set_cons_succ]))
                  iterate 2 (refine plan_take (v := ?_) (by rfl) (fun wS hS => ?_) ?_; rotate_left; (focus ((try dsimp only at hS); go_simp; (try with_reducible rfl); done)); (try simp only [Act.put, List.setIfInBounds_toArray, List.set_cons_zero, List.set_cons_succ]))
                  refine plan_nil ?_
                  go_wp2_with fail
                  go_roundw
                  case rel => exact ⟨k + 1, by omega, by rw [NI.out]; rfl, by go_num, XW2.out.drew⟩
                  case measure => simp [intOf]; omega
              · have hki' : ¬ (k : Int) < (i : Int) := by omega
                have HKI : Hid (k = i) := Lib.hid (by omega)
                clear xq
                go_wp2_with fail
                go_roundw
                case rel => exact ⟨i + 1, by omega, by rw [N1.out], by rw [N2.out, HKI.out], by go_num, XW2.out⟩
                case measure => simp [intOf]; omega
        · have hlt' : ¬ (i : Int) < (L.ev.length : Int) := by omega
          have hin : i = L.ev.length := by omega
          rw [hin] at hSQ hEQ
          have HSQ := Lib.hid hSQ.symm
          have HEQ := Lib.hid hEQ.symm
          clear hSQ hEQ hin xx
          go_upto_region 14 with fail
          cases SQ with
          | false =>
            have HAT : Hid (atoI L (natL L) = -1) := Lib.hid (seq_ato HM.out HSQ.out)
            cases EQ with
            | false =>
              have HTE : Hid (tearI L = -1) := Lib.hid (eq_tear HM.out HEQ.out)
              refine wp_region_plan [(0, false), (1, true), (2, true), (3, true), (4, true), (5, true), (6, false), (7, false), (8, true), (9, true), (10, true), (11, true), (12, true), (13, true), (14, true), (15, false), (16, true), (17, true), (18, true), (19, true), (20, true), (21, true), (22, false), (23, false), (24, true), (25, true), (26, true)] (fun w' => w'.cell? ⟨g0, 0, none⟩ = some ve ∧ w'.cell? ⟨g0, 1, none⟩ = some vp) (by kernel_rfl) (by kernel_rfl) (by kernel_rfl) (fun _ d _ _ _ h => by cases d <;> exact h) (KL.out _ (XW.out.trans (Mod.drew (Mod.refl _ _)))) ?_
              simp only [planL, getO]
              refine plan_call (fun K hK => ?_)
              go_simp
              go_at_call 37; refine (first16_any _).mono ?_; rintro e v30 ⟨rfl, y30⟩; have x30 : Ext w3 v30 := Mod.trans (XW.out.trans (Mod.drew (Mod.refl _ _))) y30
              refine hK.out _ _ (KL.out _ x30) ?_
              clear hK K
              (try simp only [Act.put, List.setIfInBounds_toArray, List.set_cons_zero, List.set_cons_succ])
              iterate 5 (refine plan_take (v := ?_) (by rfl) (fun wS hS => ?_) ?_; rotate_left; (focus ((try dsimp only at hS); go_simp; (try with_reducible rfl); done)); (try simp only [Act.put, List.setIfInBounds_toArray, List.set_cons_zero, List.set_cons_succ]))
              refine plan_call (fun K hK => ?_)
              go_simp
              go_at_call 50; refine (natural_any _ ve vp V L (KE.out _ (HX3.out.trans x30)).1 (by have := HS.out.1; omega)).mono ?_; rintro e v31 ⟨nv31, rfl, n31, y31⟩; have x31 : Ext w3 v31 := Mod.trans x30 y31; have HN31 := Lib.hid n31; clear n31
              refine hK.out _ _ (KL.out _ x31) ?_
              clear hK K
              (try simp only [Act.put, List.setIfInBounds_toArray, List.set_cons_zero, List.set_cons_succ])
              refine plan_call (fun K hK => ?_)
              go_simp
              go_at_call 45; refine (atomic_any _ ve vp V L (KE.out _ (HX3.out.trans x31)).1 (by have := HS.out.1; omega) nv31 _ HN31.out).mono ?_; rintro e v32 ⟨rfl, y32⟩; have x32 : Ext w3 v32 := Mod.trans x31 y32; rw [HAT.out]
              refine hK.out _ _ (KL.out _ x32) ?_
              clear hK K
              (try simp only [Act.put, List.setIfInBounds_toArray, List.set_cons_zero, List.set_cons_succ])
              iterate 7 (refine plan_take (v := ?_) (by rfl) (fun wS hS => ?_) ?_; rotate_left; (focus ((try dsimp only at hS); go_simp; (try with_reducible rfl); done)); (try simp only [Act.put, List.setIfInBounds_toArray, List.set_cons_zero, List.set_cons_succ]))
              refine plan_call (fun K hK => ?_)
              go_simp
              go_at_call 41; refine (tearfree_any _ ve vp V L (KE.out _ (HX3.out.trans x32)).1 (by have := HS.out.1; omega)).mono ?_; rintro e v33 ⟨rfl, y33⟩; have x33 : Ext w3 v33 := Mod.trans x32 y33; rw [HTE.out]
              refine hK.out _ _ (KL.out _ x33) ?_
              clear hK K
              (try simp only [Act.put, List.setIfInBounds_toArray, List.set_cons_zero, List.set_cons_succ])
              iterate 6 (refine plan_take (v := ?_) (by rfl) (fun wS hS => ?_) ?_; rotate_left; (focus ((try dsimp only at hS); go_simp; (try with_reducible rfl); done)); (try simp only [Act.put, List.setIfInBounds_toArray, List.set_cons_zero, List.set_cons_succ]))
              refine plan_call (fun K hK => ?_)
              go_simp
              go_at_call 50; refine (natural_any _ ve vp V L (KE.out _ (HX3.out.trans x33)).1 (by have := HS.out.1; omega)).mono ?_; rintro e v34 ⟨nv34, rfl, n34, y34⟩; have x34 : Ext w3 v34 := Mod.trans x33 y34; have HN34 := Lib.hid n34; clear n34
              refine hK.out _ _ (KL.out _ x34) ?_
              clear hK K
              (try simp only [Act.put, List.setIfInBounds_toArray, List.set_cons_zero, List.set_cons_succ])
              refine plan_call (fun K hK => ?_)
              go_simp
              go_at_call 43; refine (ordered_any _ ve vp V L (KE.out _ (HX3.out.trans x34)).1 (by have := HS.out.1; omega) nv34 _ HN34.out).mono ?_; rintro e v35 ⟨rfl, y35⟩; have x35 : Ext w3 v35 := Mod.trans x34 y35; rw [HOR.out]
              refine hK.out _ _ (KL.out _ x35) ?_
              clear hK K
              (try simp only [Act.put, List.setIfInBounds_toArray, List.set_cons_zero, List.set_cons_succ])
              iterate 3 (refine plan_take (v := ?_) (by rfl) (fun wS hS => ?_) ?_; rotate_left; (focus ((try dsimp only at hS); go_simp; (try with_reducible rfl); done)); (try simp only [Act.put, List.setIfInBounds_toArray, List.set_cons_zero, List.set_cons_succ]))
              refine plan_nil ?_
              go_wp2_with fail
              go_ret
              exact ⟨rfl, HW.out.2.2.trans (HX3.out.trans x35)⟩
            | true =>
              refine wp_region_plan [(0, false), (1, true), (2, true), (3, true), (4, true), (5, true), (6, false), (7, false), (8, true), (9, true), (10, true), (11, true), (12, true), (13, true), (14, true), (15, false), (16, true), (17, true), (18, true), (19, true), (20, true), (21, true), (22, false), (23, false), (24, true), (25, true), (26, true)] (fun w' => w'.cell? ⟨g0, 0, none⟩ = some ve ∧ w'.cell? ⟨g0, 1, none⟩ = some vp) (by kernel_rfl) (by kernel_rfl) (by kernel_rfl) (fun _ d _ _ _ h => by cases d <;> exact h) (KL.out _ (XW.out.trans (Mod.drew (Mod.refl _ _)))) ?_
              simp only [planL, getO]
              refine plan_call (fun K hK => ?_)
              go_simp
              go_at_call 37; refine (first16_any _).mono ?_; rintro e v30 ⟨rfl, y30⟩; have x30 : Ext w3 v30 := Mod.trans (XW.out.trans (Mod.drew (Mod.refl _ _))) y30
              refine hK.out _ _ (KL.out _ x30) ?_
              clear hK K
              (try simp only [Act.put, List.setIfInBounds_toArray, List.set_cons_zero, List.set_cons_succ])
              iterate 5 (refine plan_take (v := ?_) (by rfl) (fun wS hS => ?_) ?_; rotate_left; (focus ((try dsimp only at hS); go_simp; (try with_reducible rfl); done)); (try simp only [Act.put, List.setIfInBounds_toArray, List.set_cons_zero, List.set_cons_succ]))
              refine plan_call (fun K hK => ?_)
              go_simp
              go_at_call 50; refine (natural_any _ ve vp V L (KE.out _ (HX3.out.trans x30)).1 (by have := HS.out.1; omega)).mono ?_; rintro e v31 ⟨nv31, rfl, n31, y31⟩; have x31 : Ext w3 v31 := Mod.trans x30 y31; have HN31 := Lib.hid n31; clear n31
              refine hK.out _ _ (KL.out _ x31) ?_
              clear hK K
              (try simp only [Act.put, List.setIfInBounds_toArray, List.set_cons_zero, List.set_cons_succ])
              refine plan_call (fun K hK => ?_)
              go_simp
              go_at_call 45; refine (atomic_any _ ve vp V L (KE.out _ (HX3.out.trans x31)).1 (by have := HS.out.1; omega) nv31 _ HN31.out).mono ?_; rintro e v32 ⟨rfl, y32⟩; have x32 : Ext w3 v32 := Mod.trans x31 y32; rw [HAT.out]
              refine hK.out _ _ (KL.out _ x32) ?_
              clear hK K
              (try simp only [Act.put, List.setIfInBounds_toArray, List.set_cons_zero, List.set_cons_succ])
              iterate 6 (refine plan_take (v := ?_) (by rfl) (fun wS hS => ?_) ?_; rotate_left; (focus ((try dsimp only at hS); go_simp; (try with_reducible rfl); done)); (try simp only [Act.put, List.setIfInBounds_toArray, List.set_cons_zero, List.set_cons_succ]))
              (refine plan_skip (by rfl) ?_; (try simp only [Act.put, List.setIfInBounds_toArray, List.set_cons_zero, List.set_cons_succ]))
              (refine plan_skip (by rfl) ?_; (try simp only [Act.put, List.setIfInBounds_toArray, List.set_cons_zero, List.set_cons_succ]))
              (refine plan_skip (by rfl) ?_; (try simp only [Act.put, List.setIfInBounds_toArray, List.set_cons_zero, List.set_cons_succ]))
              iterate 5 (refine plan_take (v := ?_) (by rfl) (fun wS hS => ?_) ?_; rotate_left; (focus ((try dsimp only at hS); go_simp; (try with_reducible rfl); done)); (try simp only [Act.put, List.setIfInBounds_toArray, List.set_cons_zero, List.set_cons_succ]))
              refine plan_call (fun K hK => ?_)
              go_simp
              go_at_call 50; refine (natural_any _ ve vp V L (KE.out _ (HX3.out.trans x32)).1 (by have := HS.out.1; omega)).mono ?_; rintro e v33 ⟨nv33, rfl, n33, y33⟩; have x33 : Ext w3 v33 := Mod.trans x32 y33; have HN33 := Lib.hid n33; clear n33
              refine hK.out _ _ (KL.out _ x33) ?_
              clear hK K
              (try simp only [Act.put, List.setIfInBounds_toArray, List.set_cons_zero, List.set_cons_succ])
              refine plan_call (fun K hK => ?_)
              go_simp
              go_at_call 43; refine (ordered_any _ ve vp V L (KE.out _ (HX3.out.trans x33)).1 (by have := HS.out.1; omega) nv33 _ HN33.out).mono ?_; rintro e v34 ⟨rfl, y34⟩; have x34 : Ext w3 v34 := Mod.trans x33 y34; rw [HOR.out]
              refine hK.out _ _ (KL.out _ x34) ?_
              clear hK K
              (try simp only [Act.put, List.setIfInBounds_toArray, List.set_cons_zero, List.set_cons_succ])
              iterate 3 (refine plan_take (v := ?_) (by rfl) (fun wS hS => ?_) ?_; rotate_left; (focus ((try dsimp only at hS); go_simp; (try with_reducible rfl); done)); (try simp only [Act.put, List.setIfInBounds_toArray, List.set_cons_zero, List.set_cons_succ]))
              refine plan_nil ?_
              go_wp2_with fail
              go_ret
              exact ⟨rfl, HW.out.2.2.trans (HX3.out.trans x34)⟩
          | true =>
            cases EQ with
            | false =>
              have HTE : Hid (tearI L = -1) := Lib.hid (eq_tear HM.out HEQ.out)
              refine wp_region_plan [(0, false), (1, true), (2, true), (3, true), (4, true), (5, true), (6, false), (7, false), (8, true), (9, true), (10, true), (11, true), (12, true), (13, true), (14, true), (15, false), (16, true), (17, true), (18, true), (19, true), (20, true), (21, true), (22, false), (23, false), (24, true), (25, true), (26, true)] (fun w' => w'.cell? ⟨g0, 0, none⟩ = some ve ∧ w'.cell? ⟨g0, 1, none⟩ = some vp) (by kernel_rfl) (by kernel_rfl) (by kernel_rfl) (fun _ d _ _ _ h => by cases d <;> exact h) (KL.out _ (XW.out.trans (Mod.drew (Mod.refl _ _)))) ?_
              simp only [planL, getO]
              refine plan_call (fun K hK => ?_)
              go_simp
              go_at_call 37; refine (first16_any _).mono ?_; rintro e v30 ⟨rfl, y30⟩; have x30 : Ext w3 v30 := Mod.trans (XW.out.trans (Mod.drew (Mod.refl _ _))) y30
              refine hK.out _ _ (KL.out _ x30) ?_
              clear hK K
              (try simp only [Act.put, List.setIfInBounds_toArray, List.set_cons_zero, List.set_cons_succ])
              iterate 3 (refine plan_take (v := ?_) (by rfl) (fun wS hS => ?_) ?_; rotate_left; (focus ((try dsimp only at hS); go_simp; (try with_reducible rfl); done)); (try simp only [Act.put, List.setIfInBounds_toArray, List.set_cons_zero, List.set_cons_succ]))
              iterate 2 (refine plan_skip (by rfl) ?_; (try simp only [Act.put, List.setIfInBounds_toArray, List.set_cons_zero, List.set_cons_succ]))
              (refine plan_skip (by rfl) ?_; (try simp only [Act.put, List.setIfInBounds_toArray, List.set_cons_zero, List.set_cons_succ]))
              (refine plan_skip (by rfl) ?_; (try simp only [Act.put, List.setIfInBounds_toArray, List.set_cons_zero, List.set_cons_succ]))
              (refine plan_skip (by rfl) ?_; (try simp only [Act.put, List.setIfInBounds_toArray, List.set_cons_zero, List.set_cons_succ]))
              iterate 6 (refine plan_take (v := ?_) (by rfl) (fun wS hS => ?_) ?_; rotate_left; (focus ((try dsimp only at hS); go_simp; (try with_reducible rfl); done)); (try simp only [Act.put, List.setIfInBounds_toArray, List.set_cons_zero, List.set_cons_succ]))
              refine plan_call (fun K hK => ?_)
              go_simp
              go_at_call 41; refine (tearfree_any _ ve vp V L (KE.out _ (HX3.out.trans x30)).1 (by have := HS.out.1; omega)).mono ?_; rintro e v31 ⟨rfl, y31⟩; have x31 : Ext w3 v31 := Mod.trans x30 y31; rw [HTE.out]
              refine hK.out _ _ (KL.out _ x31) ?_
              clear hK K
              (try simp only [Act.put, List.setIfInBounds_toArray, List.set_cons_zero, List.set_cons_succ])
              iterate 6 (refine plan_take (v := ?_) (by rfl) (fun wS hS => ?_) ?_; rotate_left; (focus ((try dsimp only at hS); go_simp; (try with_reducible rfl); done)); (try simp only [Act.put, List.setIfInBounds_toArray, List.set_cons_zero, List.set_cons_succ]))
              refine plan_call (fun K hK => ?_)
              go_simp
              go_at_call 50; refine (natural_any _ ve vp V L (KE.out _ (HX3.out.trans x31)).1 (by have := HS.out.1; omega)).mono ?_; rintro e v32 ⟨nv32, rfl, n32, y32⟩; have x32 : Ext w3 v32 := Mod.trans x31 y32; have HN32 := Lib.hid n32; clear n32
              refine hK.out _ _ (KL.out _ x32) ?_
              clear hK K
              (try simp only [Act.put, List.setIfInBounds_toArray, List.set_cons_zero, List.set_cons_succ])
              refine plan_call (fun K hK => ?_)
              go_simp
              go_at_call 43; refine (ordered_any _ ve vp V L (KE.out _ (HX3.out.trans x32)).1 (by have := HS.out.1; omega) nv32 _ HN32.out).mono ?_; rintro e v33 ⟨rfl, y33⟩; have x33 : Ext w3 v33 := Mod.trans x32 y33; rw [HOR.out]
              refine hK.out _ _ (KL.out _ x33) ?_
              clear hK K
              (try simp only [Act.put, List.setIfInBounds_toArray, List.set_cons_zero, List.set_cons_succ])
              iterate 3 (refine plan_take (v := ?_) (by rfl) (fun wS hS => ?_) ?_; rotate_left; (focus ((try dsimp only at hS); go_simp; (try with_reducible rfl); done)); (try simp only [Act.put, List.setIfInBounds_toArray, List.set_cons_zero, List.set_cons_succ]))
              refine plan_nil ?_
              go_wp2_with fail
              go_ret
              exact ⟨rfl, HW.out.2.2.trans (HX3.out.trans x33)⟩
            | true =>
              refine wp_region_plan [(0, false), (1, true), (2, true), (3, true), (4, true), (5, true), (6, false), (7, false), (8, true), (9, true), (10, true), (11, true), (12, true), (13, true), (14, true), (15, false), (16, true), (17, true), (18, true), (19, true), (20, true), (21, true), (22, false), (23, false), (24, true), (25, true), (26, true)] (fun w' => w'.cell? ⟨g0, 0, none⟩ = some ve ∧ w'.cell? ⟨g0, 1, none⟩ = some vp) (by kernel_rfl) (by kernel_rfl) (by kernel_rfl) (fun _ d _ _ _ h => by cases d <;> exact h) (KL.out _ (XW.out.trans (Mod.drew (Mod.refl _ _)))) ?_
              simp only [planL, getO]
              refine plan_call (fun K hK => ?_)
              go_simp
              go_at_call 37; refine (first16_any _).mono ?_; rintro e v30 ⟨rfl, y30⟩; have x30 : Ext w3 v30 := Mod.trans (XW.out.trans (Mod.drew (Mod.refl _ _))) y30
              refine hK.out _ _ (KL.out _ x30) ?_
              clear hK K
              (try simp only [Act.put, List.setIfInBounds_toArray, List.set_cons_zero, List.set_cons_succ])
              iterate 3 (refine plan_take (v := ?_) (by rfl) (fun wS hS => ?_) ?_; rotate_left; (focus ((try dsimp only at hS); go_simp; (try with_reducible rfl); done)); (try simp only [Act.put, List.setIfInBounds_toArray, List.set_cons_zero, List.set_cons_succ]))
              iterate 2 (refine plan_skip (by rfl) ?_; (try simp only [Act.put, List.setIfInBounds_toArray, List.set_cons_zero, List.set_cons_succ]))
              (refine plan_skip (by rfl) ?_; (try simp only [Act.put, List.setIfInBounds_toArray, List.set_cons_zero, List.set_cons_succ]))
              (refine plan_skip (by rfl) ?_; (try simp only [Act.put, List.setIfInBounds_toArray, List.set_cons_zero, List.set_cons_succ]))
              (refine plan_skip (by rfl) ?_; (try simp only [Act.put, List.setIfInBounds_toArray, List.set_cons_zero, List.set_cons_succ]))
              iterate 5 (refine plan_take (v := ?_) (by rfl) (fun wS hS => ?_) ?_; rotate_left; (focus ((try dsimp only at hS); go_simp; (try with_reducible rfl); done)); (try simp only [Act.put, List.setIfInBounds_toArray, List.set_cons_zero, List.set_cons_succ]))
              (refine plan_skip (by rfl) ?_; (try simp only [Act.put, List.setIfInBounds_toArray, List.set_cons_zero, List.set_cons_succ]))
              (refine plan_skip (by rfl) ?_; (try simp only [Act.put, List.setIfInBounds_toArray, List.set_cons_zero, List.set_cons_succ]))
              (refine plan_skip (by rfl) ?_; (try simp only [Act.put, List.setIfInBounds_toArray, List.set_cons_zero, List.set_cons_succ]))
              iterate 5 (refine plan_take (v := ?_) (by rfl) (fun wS hS => ?_) ?_; rotate_left; (focus ((try dsimp only at hS); go_simp; (try with_reducible rfl); done)); (try simp only [Act.put, List.setIfInBounds_toArray, List.set_cons_zero, List.set_cons_succ]))
              refine plan_call (fun K hK => ?_)
              go_simp
              go_at_call 50; refine (natural_any _ ve vp V L (KE.out _ (HX3.out.trans x30)).1 (by have := HS.out.1; omega)).mono ?_; rintro e v31 ⟨nv31, rfl, n31, y31⟩; have x31 : Ext w3 v31 := Mod.trans x30 y31; have HN31 := Lib.hid n31; clear n31
              refine hK.out _ _ (KL.out _ x31) ?_
              clear hK K
              (try simp only [Act.put, List.setIfInBounds_toArray, List.set_cons_zero, List.set_cons_succ])
              refine plan_call (fun K hK => ?_)
              go_simp
              go_at_call 43; refine (ordered_any _ ve vp V L (KE.out _ (HX3.out.trans x31)).1 (by have := HS.out.1; omega) nv31 _ HN31.out).mono ?_; rintro e v32 ⟨rfl, y32⟩; have x32 : Ext w3 v32 := Mod.trans x31 y32; rw [HOR.out]
              refine hK.out _ _ (KL.out _ x32) ?_
              clear hK K
              (try simp only [Act.put, List.setIfInBounds_toArray, List.set_cons_zero, List.set_cons_succ])
              iterate 3 (refine plan_take (v := ?_) (by rfl) (fun wS hS => ?_) ?_; rotate_left; (focus ((try dsimp only at hS); go_simp; (try with_reducible rfl); done)); (try simp only [Act.put, List.setIfInBounds_toArray, List.set_cons_zero, List.set_cons_succ]))
              refine plan_nil ?_
              go_wp2_with fail
              go_ret
              exact ⟨rfl, HW.out.2.2.trans (HX3.out.trans x32)⟩
end Go.Proofs.Ythmkcgiiakinmaa
