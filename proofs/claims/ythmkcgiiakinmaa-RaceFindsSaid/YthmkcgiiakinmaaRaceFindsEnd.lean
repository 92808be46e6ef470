/-
  RaceFinds: any log: conflicts and data races. No condition.
-/
import Derived.Test.YthmkcgiiakinmaaRvCfs
import Derived.Test.YthmkcgiiakinmaaRaceFst
import Derived.Test.YthmkcgiiakinmaaPairEq
import Derived.Test.YthmkcgiiakinmaaFrame
import Derived.Test.YthmkcgiiakinmaaEvArgs
namespace Go.Proofs.Ythmkcgiiakinmaa
open Go.Ren Go.RowKit
set_option linter.unusedVariables false
set_option maxRecDepth 100000 in
set_option maxHeartbeats 800000 in
theorem pairs17_any (w : World) (v u : Value) (l : List (Int × Int)) (h1 : PairsOwn w v l) (h2 : PairsOwn w u l) (hl : l.length ≤ 5000) :
    Calls Try.prog 20 #[v, u] w (FPost true w) := by
  have hle : (l.length : Int) ≤ 5000 := by omega
  have l1 := h1.sl.run_len (P := Try.prog) IP.und 3
  have l2 := h2.sl.run_len (P := Try.prog) IP.und 3
  have HI := Lib.hid (h1.sl.run_idx (P := Try.prog) IP.und IP.size .i64)
  have HJ := Lib.hid (h2.sl.run_idx (P := Try.prog) IP.und IP.size .i64)
  have H1 := Lib.hid h1
  have H2 := Lib.hid h2
  clear h1 h2 hl
  go_enter Try.func20, Try.ntmps20
  go_wp2_with fail
  go_loopw [5] (fun s wr => ∃ i : Nat, i ≤ l.length ∧ s = .int .i64 (i : Int) ∧ Ext w wr) (fun s _ => l.length - (intOf s).toNat)
  case atStart => exact ⟨0, Nat.zero_le _, rfl, Mod.refl _ _⟩
  case round =>
    obtain ⟨i, hi, rfl, x⟩ := hrel
    have HX := Lib.hid x
    by_cases hlt : i < l.length
    · have hlt' : (i : Int) < (l.length : Int) := by omega
      have i0 := HI.out i hlt
      have i1 := HJ.out i hlt
      obtain ⟨e0, e1⟩ := pair_cells (H1.out.ext x) hlt
      obtain ⟨e2, e3⟩ := pair_cells (H2.out.ext x) hlt
      obtain ⟨p1, hp1⟩ : ∃ p, p = (prn l i).1 := ⟨_, rfl⟩
      obtain ⟨p2, hp2⟩ : ∃ p, p = (prn l i).2 := ⟨_, rfl⟩
      obtain ⟨A1, hA1⟩ : ∃ A, A = at_ v (i * 2) := ⟨_, rfl⟩
      obtain ⟨A2, hA2⟩ : ∃ A, A = at_ u (i * 2) := ⟨_, rfl⟩
      rw [← hp1, ← hA1] at e0
      rw [← hp2, ← hA1] at e1
      rw [← hp1, ← hA2] at e2
      rw [← hp2, ← hA2] at e3
      rw [← hA1] at i0
      rw [← hA2] at i1
      have KG : Hid (∀ w', Ext wr w' → w'.cell? A1 = some (.int .i64 p1) ∧ w'.cell? ⟨A1.block, A1.off + 1, none⟩ = some (.int .i64 p2) ∧ w'.cell? A2 = some (.int .i64 p1) ∧ w'.cell? ⟨A2.block, A2.off + 1, none⟩ = some (.int .i64 p2)) := Lib.hid fun w' z => ⟨Ext.cell z e0, Ext.cell z e1, Ext.cell z e2, Ext.cell z e3⟩
      have hq := run_neq_pair (P := Try.prog) (T := 48) (e := 3) Try.underlying48 Try.underlying3 (by kernel_rfl) p1 p2 p1 p2
      have hg : ∀ (op : BinOp) (x y : Operand) (w' : World), (eqGuard op 48 x y (.agg #[.int .i64 p1, .int .i64 p2]) (.agg #[.int .i64 p1, .int .i64 p2])).run Try.prog w' = .ok () w' := fun op x y w' => run_eqGuard_agg w' op _ x y _ _ (by kernel_rfl)
      rw [show (!(p1 == p1 && p2 == p2)) = false by simp] at hq
      clear x hp1 hp2 hA1 hA2
      go_upto_region 6 with fail
      clear e0 e1 e2 e3
      refine wp_region_plan [(0, true), (1, true), (2, true), (3, true), (4, true), (5, true), (6, true), (7, true), (8, true)] (fun w' => w'.cell? A1 = some (.int .i64 p1) ∧ w'.cell? ⟨A1.block, A1.off + 1, none⟩ = some (.int .i64 p2) ∧ w'.cell? A2 = some (.int .i64 p1) ∧ w'.cell? ⟨A2.block, A2.off + 1, none⟩ = some (.int .i64 p2)) (by kernel_rfl) (by kernel_rfl) (by kernel_rfl) (fun _ d _ _ _ h => by cases d <;> exact h) (KG.out _ (Mod.drew (Mod.refl _ _))) ?_
      simp only [planL, getO]
      iterate 9 (refine plan_take (v := ?_) (by rfl) (fun wS hS => ?_) ?_; rotate_left; (focus ((try dsimp only at hS); go_simp; (try with_reducible rfl); done)); (try simp only [Act.put, List.setIfInBounds_toArray, List.set_cons_zero, List.set_cons_succ]))
      refine plan_nil ?_
      go_wp2_with fail
      go_roundw
      case rel => exact ⟨i + 1, by omega, by go_num, HX.out.drew⟩
      case measure => simp [intOf]; omega
    · have hlt' : ¬ (i : Int) < (l.length : Int) := by omega
      clear x
      go_wp2_with fail
      go_ret
      exact ⟨rfl, HX.out⟩
theorem dtL_len {L : Lg} (hl : L.ev.length ≤ 64) : (dtL L).length ≤ 4096 := Nat.le_trans (List.length_filter_le _ _) (cfL_len hl)
set_option maxRecDepth 100000 in
set_option maxHeartbeats 1600000 in
theorem raceFinds_all (w : World) (ve vp : Value) (V : Nat → Vs) (L : Lg) (h : LogIn w ve vp V L) (a b : Int) :
    Calls Try.prog 3 #[.agg #[ve, vp], .int .i64 a, .int .i64 b] w (FPost true w) := by
  have q1 := Sl.cells_eq h.row
  have q2 := Sl.cells_eq h.prow
  have s1 := Sl.run_st (P := Try.prog) h.row
  have s2 := Sl.run_st (P := Try.prog) h.prow
  obtain ⟨w0, hw0⟩ : ∃ w0, w0 = w.alloc (.cells #[ve, vp] 25) := ⟨_, rfl⟩
  obtain ⟨g0, hg0⟩ : ∃ g, g = w.heap.size := ⟨_, rfl⟩
  have x0 : Ext w w0 := by rw [hw0]; exact (Mod.refl _ _).alloc _
  have b0 : LogBox w0 g0 ve vp := ⟨by rw [hw0, hg0]; exact heap_alloc_new _ _⟩
  have HW := Lib.hid (And.intro hw0 (And.intro hg0 x0))
  have KE : Hid (∀ w', Ext w0 w' → LogIn w' ve vp V L ∧ LogBox w' g0 ve vp) := Lib.hid fun w' x => ⟨h.ext (x0.trans x), b0.ext x⟩
  have HI := Lib.hid (h.row.run_idx (P := Try.prog) IEv.und IEv.size .i64)
  have HJ := Lib.hid (h.prow.run_idx (P := Try.prog) IP.und IP.size .i64)
  have l1 := h.row.run_len (P := Try.prog) IEv.und 3
  have l2 := h.prow.run_len (P := Try.prog) IP.und 3
  clear hw0 hg0 x0 b0 h
  go_enter Try.func3, Try.ntmps3
  go_upto_region 1 with fail
  rw [← HW.out.1, ← HW.out.2.1]
  clear s1 s2
  go_wp2_with fail
  refine (first17_any _).mono ?_
  rintro e w1 ⟨rfl, x1⟩
  obtain ⟨c0, c1⟩ := (KE.out _ x1).2.cells
  go_wp2_with fail
  refine (few_any _ _ _ V L (KE.out _ x1).1 40 (by decide)).mono ?_
  rintro r w2 ⟨⟨r, rfl, hf⟩, y2⟩
  have X2 : Ext w0 w2 := x1.trans y2
  clear c0 c1
  obtain ⟨c0, c1⟩ := (KE.out _ X2).2.cells
  cases r with
  | false =>
    clear hf
    go_wp2_with fail
    refine (first17_any _).mono ?_
    rintro e w3 ⟨rfl, x3⟩
    go_wp2_with fail
    go_ret
    exact ⟨rfl, (HW.out.2.2.trans X2).trans x3⟩
  | true =>
    have HS : Hid (L.ev.length ≤ 40 ∧ L.pr.length ≤ 40 ∧ ∀ i, i < L.ev.length → (evn L.ev i).rd.length ≤ 20000 ∧ (evn L.ev i).wr.length ≤ 20000 ∧ (evn L.ev i).fr.length ≤ 20000) := Lib.hid (hf rfl)
    have hle : (L.ev.length : Int) ≤ 40 := by have := HS.out.1; omega
    have hle2 : (L.pr.length : Int) ≤ 40 := by have := HS.out.2.1; omega
    clear hf
    have HSM : Hid (SmL L) := Lib.hid HS.out.2.2
    have HLC : Hid ((cfL L).length ≤ 5000) := Lib.hid (Nat.le_trans (cfL_len (by have := HS.out.1; omega)) (by decide))
    have HLD : Hid ((dtL L).length ≤ 5000) := Lib.hid (Nat.le_trans (dtL_len (by have := HS.out.1; omega)) (by decide))
    obtain ⟨C, hC⟩ : ∃ C, C = cfB L a b := ⟨_, rfl⟩
    obtain ⟨D, hD⟩ : ∃ D, D = dtB L a b := ⟨_, rfl⟩
    obtain ⟨I, hI⟩ : ∃ D, D = frL (cfL L) := ⟨_, rfl⟩
    have HC := Lib.hid hC.symm
    have HD := Lib.hid hD.symm
    have HI2 := Lib.hid hI.symm
    clear hC hD hI
    go_wp2_with fail
    refine (rlog_any _ ve vp V L (KE.out _ X2).1 (by have := HS.out.1; omega)).mono ?_
    rintro en w3 ⟨hv, rfl, lh, y3⟩
    have t1 := Sl.cells_eq lh.row
    have t3 := Sl.run_st (P := Try.prog) lh.row
    have t4 := Sl.run_st (P := Try.prog) lh.prow
    obtain ⟨w4, hw4⟩ : ∃ W, W = w3.alloc (.cells #[hv, vp] 30) := ⟨_, rfl⟩
    obtain ⟨g4, hg4⟩ : ∃ g, g = w3.heap.size := ⟨_, rfl⟩
    have x4 : Ext w3 w4 := by rw [hw4]; exact (Mod.refl _ _).alloc _
    have b4 : RLogBox w4 g4 hv vp := ⟨by rw [hw4, hg4]; exact heap_alloc_new _ _⟩
    have HB4 := Lib.hid (And.intro hw4 hg4)
    have HX4 := Lib.hid (X2.trans (y3.trans x4))
    have KX : Hid (∀ w', Ext w4 w' → LogIn w' ve vp V L ∧ LogIn w' hv vp V L) := Lib.hid fun w' x => ⟨(KE.out _ (HX4.out.trans x)).1, lh.ext (x4.trans x)⟩
    have KF : Hid (∀ w', Ext w4 w' → w'.cell? ⟨g0, 0, none⟩ = some ve ∧ w'.cell? ⟨g0, 1, none⟩ = some vp ∧ w'.cell? ⟨g4, 0, none⟩ = some hv ∧ w'.cell? ⟨g4, 1, none⟩ = some vp) := Lib.hid fun w' x => by
      obtain ⟨a0, a1⟩ := (KE.out _ (HX4.out.trans x)).2.cells
      obtain ⟨a2, a3⟩ := (b4.ext x).cells
      exact ⟨a0, a1, a2, a3⟩
    clear c0 c1 lh hw4 hg4 x4 b4 y3
    go_upto_region 6 with fail
    rw [← HB4.out.1, ← HB4.out.2]
    clear t3 t4
    refine wp_region_plan [(0, false), (1, true), (2, true), (3, true), (4, true), (6, true), (7, true), (8, true), (5, false), (9, false), (10, true), (11, true), (12, true), (13, true), (14, true), (15, true), (17, true), (18, true), (19, true), (16, false), (20, false), (21, true), (22, true), (23, true), (24, true), (26, true), (25, false), (27, false), (28, false), (29, true), (30, true), (31, true), (33, true), (32, false), (34, false), (35, false), (36, true), (37, true), (38, true), (40, true), (39, false), (41, false), (42, true), (43, true), (44, true)] (fun w' => w'.cell? ⟨g0, 0, none⟩ = some ve ∧ w'.cell? ⟨g0, 1, none⟩ = some vp ∧ w'.cell? ⟨g4, 0, none⟩ = some hv ∧ w'.cell? ⟨g4, 1, none⟩ = some vp) (by kernel_rfl) (by kernel_rfl) (by kernel_rfl) (fun _ d _ _ _ h => by cases d <;> exact h) (KF.out _ (Mod.drew (Mod.refl _ _))) ?_
    simp only [planL, getO]
    refine plan_call (fun K hK => ?_)
    go_simp
    go_at_call 13; refine (first17_any _).mono ?_; rintro en v1 ⟨rfl, u1⟩; have U1 : Ext w4 v1 := Mod.trans (Mod.drew (Mod.refl _ _)) u1
    refine hK.out _ _ (KF.out _ U1) ?_
    clear hK K
    (try simp only [Act.put, List.setIfInBounds_toArray, List.set_cons_zero, List.set_cons_succ])
    iterate 7 (refine plan_take (v := ?_) (by rfl) (fun wS hS => ?_) ?_; rotate_left; (focus ((try dsimp only at hS); go_simp; (try with_reducible rfl); done)); (try simp only [Act.put, List.setIfInBounds_toArray, List.set_cons_zero, List.set_cons_succ]))
    refine plan_call (fun K hK => ?_)
    go_simp
    go_at_call 16; refine (conflict_any _ ve vp V L (KX.out _ U1).1 (by have := HS.out.1; omega) a b).mono ?_; rintro en v2 ⟨rfl, u2⟩; have U2 : Ext w4 v2 := Mod.trans U1 u2; rw [HC.out]
    refine hK.out _ _ (KF.out _ U2) ?_
    clear hK K
    (try simp only [Act.put, List.setIfInBounds_toArray, List.set_cons_zero, List.set_cons_succ])
    refine plan_call (fun K hK => ?_)
    go_simp
    go_at_call 17; refine (rConflict_any _ hv vp V L (KX.out _ U2).2 HSM.out (by have := HS.out.1; omega) a b).mono ?_; rintro en v3 ⟨rfl, u3⟩; have U3 : Ext w4 v3 := Mod.trans U2 u3; rw [HC.out]
    refine hK.out _ _ (KF.out _ U3) ?_
    clear hK K
    (try simp only [Act.put, List.setIfInBounds_toArray, List.set_cons_zero, List.set_cons_succ])
    iterate 9 (refine plan_take (v := ?_) (by rfl) (fun wS hS => ?_) ?_; rotate_left; (focus ((try dsimp only at hS); go_simp; (try with_reducible rfl); done)); (try simp only [Act.put, List.setIfInBounds_toArray, List.set_cons_zero, List.set_cons_succ]))
    refine plan_call (fun K hK => ?_)
    go_simp
    go_at_call 18; refine (data_any _ ve vp V L (KX.out _ U3).1 (by have := HS.out.1; omega) a b).mono ?_; rintro en v4 ⟨rfl, u4⟩; have U4 : Ext w4 v4 := Mod.trans U3 u4; rw [HD.out]
    refine hK.out _ _ (KF.out _ U4) ?_
    clear hK K
    (try simp only [Act.put, List.setIfInBounds_toArray, List.set_cons_zero, List.set_cons_succ])
    refine plan_call (fun K hK => ?_)
    go_simp
    go_at_call 19; refine (rData_any _ hv vp V L (KX.out _ U4).2 HSM.out (by have := HS.out.1; omega) a b).mono ?_; rintro en v5 ⟨rfl, u5⟩; have U5 : Ext w4 v5 := Mod.trans U4 u5; rw [HD.out]
    refine hK.out _ _ (KF.out _ U5) ?_
    clear hK K
    (try simp only [Act.put, List.setIfInBounds_toArray, List.set_cons_zero, List.set_cons_succ])
    iterate 5 (refine plan_take (v := ?_) (by rfl) (fun wS hS => ?_) ?_; rotate_left; (focus ((try dsimp only at hS); go_simp; (try with_reducible rfl); done)); (try simp only [Act.put, List.setIfInBounds_toArray, List.set_cons_zero, List.set_cons_succ]))
    refine plan_call (fun K hK => ?_)
    go_simp
    go_at_call 21; refine (conflicts_any _ ve vp V L (KX.out _ U5).1 (by have := HS.out.1; omega)).mono ?_; rintro en v6 ⟨cv, rfl, oc, u6, -⟩; have U6 : Ext w4 v6 := Mod.trans U5 u6; have HOC := Lib.hid oc; clear oc
    refine hK.out _ _ (KF.out _ U6) ?_
    clear hK K
    (try simp only [Act.put, List.setIfInBounds_toArray, List.set_cons_zero, List.set_cons_succ])
    refine plan_call (fun K hK => ?_)
    go_simp
    go_at_call 22; refine (rconflicts_any _ hv vp V L (KX.out _ U6).2 HSM.out (by have := HS.out.1; omega) false).mono ?_; rintro en v7 ⟨cw, rfl, ow, u7, -⟩; have U7 : Ext w4 v7 := Mod.trans U6 u7; rw [cdL_false] at ow; have HOW := Lib.hid ow; clear ow
    refine hK.out _ _ (KF.out _ U7) ?_
    clear hK K
    (try simp only [Act.put, List.setIfInBounds_toArray, List.set_cons_zero, List.set_cons_succ])
    refine plan_call (fun K hK => ?_)
    go_simp
    go_at_call 20; refine (pairs17_any _ _ _ _ (HOC.out.ext u7) HOW.out HLC.out).mono ?_; rintro en v8 ⟨rfl, u8⟩; have U8 : Ext w4 v8 := Mod.trans U7 u8
    refine hK.out _ _ (KF.out _ U8) ?_
    clear hK K
    (try simp only [Act.put, List.setIfInBounds_toArray, List.set_cons_zero, List.set_cons_succ])
    iterate 4 (refine plan_take (v := ?_) (by rfl) (fun wS hS => ?_) ?_; rotate_left; (focus ((try dsimp only at hS); go_simp; (try with_reducible rfl); done)); (try simp only [Act.put, List.setIfInBounds_toArray, List.set_cons_zero, List.set_cons_succ]))
    refine plan_call (fun K hK => ?_)
    go_simp
    go_at_call 23; refine (datas_any _ ve vp V L (KX.out _ U8).1 (by have := HS.out.1; omega)).mono ?_; rintro en v9 ⟨dv, rfl, od, u9, -⟩; have U9 : Ext w4 v9 := Mod.trans U8 u9; have HOD := Lib.hid od; clear od
    refine hK.out _ _ (KF.out _ U9) ?_
    clear hK K
    (try simp only [Act.put, List.setIfInBounds_toArray, List.set_cons_zero, List.set_cons_succ])
    refine plan_call (fun K hK => ?_)
    go_simp
    go_at_call 22; refine (rconflicts_any _ hv vp V L (KX.out _ U9).2 HSM.out (by have := HS.out.1; omega) true).mono ?_; rintro en v10 ⟨dw, rfl, ox, u10, -⟩; have U10 : Ext w4 v10 := Mod.trans U9 u10; rw [cdL_true] at ox; have HOX := Lib.hid ox; clear ox
    refine hK.out _ _ (KF.out _ U10) ?_
    clear hK K
    (try simp only [Act.put, List.setIfInBounds_toArray, List.set_cons_zero, List.set_cons_succ])
    refine plan_call (fun K hK => ?_)
    go_simp
    go_at_call 20; refine (pairs17_any _ _ _ _ (HOD.out.ext u10) HOX.out HLD.out).mono ?_; rintro en v11 ⟨rfl, u11⟩; have U11 : Ext w4 v11 := Mod.trans U10 u11
    refine hK.out _ _ (KF.out _ U11) ?_
    clear hK K
    (try simp only [Act.put, List.setIfInBounds_toArray, List.set_cons_zero, List.set_cons_succ])
    iterate 4 (refine plan_take (v := ?_) (by rfl) (fun wS hS => ?_) ?_; rotate_left; (focus ((try dsimp only at hS); go_simp; (try with_reducible rfl); done)); (try simp only [Act.put, List.setIfInBounds_toArray, List.set_cons_zero, List.set_cons_succ]))
    refine plan_call (fun K hK => ?_)
    go_simp
    go_at_call 24; refine (rfirst_any _ ve vp V L (KX.out _ U11).1 (by have := HS.out.1; omega)).mono ?_; rintro en v12 ⟨rfl, u12⟩; have U12 : Ext w4 v12 := Mod.trans U11 u12; rw [HI2.out]
    refine hK.out _ _ (KF.out _ U12) ?_
    clear hK K
    (try simp only [Act.put, List.setIfInBounds_toArray, List.set_cons_zero, List.set_cons_succ])
    refine plan_call (fun K hK => ?_)
    go_simp
    go_at_call 25; refine (rrfirst_any _ hv vp V L (KX.out _ U12).2 HSM.out (by have := HS.out.1; omega)).mono ?_; rintro en v13 ⟨rfl, u13⟩; have U13 : Ext w4 v13 := Mod.trans U12 u13; rw [HI2.out]
    refine hK.out _ _ (KF.out _ U13) ?_
    clear hK K
    (try simp only [Act.put, List.setIfInBounds_toArray, List.set_cons_zero, List.set_cons_succ])
    iterate 3 (refine plan_take (v := ?_) (by rfl) (fun wS hS => ?_) ?_; rotate_left; (focus ((try dsimp only at hS); go_simp; (try with_reducible rfl); done)); (try simp only [Act.put, List.setIfInBounds_toArray, List.set_cons_zero, List.set_cons_succ]))
    refine plan_nil ?_
    go_wp2_with fail
    go_ret
    exact ⟨rfl, HW.out.2.2.trans (HX4.out.trans U13)⟩
end Go.Proofs.Ythmkcgiiakinmaa
namespace Go.Proofs.Ythmkcgiiakinmaa
open Go.Ren Go.ChangeShapes Go.WideShapes Go.ChangeAt Go.RowKit
set_option linter.unusedVariables false

namespace raceFinds
theorem own : ownKnob Try.prog.godebug = none := by kernel_rfl
set_option maxRecDepth 100000 in
theorem lifted (os : Os) (started : os.Started) (H : Type) (enc : TypeId × Value → H) :
    ReturnsInHanded {} Try.checked os 3 .any (Rows.raceFindsSpec.pre6 enc Try.prog Try.f3 Rows.raceFindsRow.domain false) (Rows.raceFindsSpec.post enc Try.prog Try.f3 false true false false) := by
  refine returnsInHanded_of_change (C := Try.checked) own started (by kernel_rfl) Try.func3
    (ChangeSpec.witness6 (enc := enc) (C := Try.checked) false ⟨#[], #[.agg #[.slice none 0 0, .slice none 0 0], .int .i64 0, .int .i64 0], []⟩ 8 (by kernel_rfl) (by kernel_rfl) (by kernel_rfl) (by kernel_rfl)) ?_
  intro W base args ds gs before hval0 hW hcnd _
  have hval : ∀ (j : Nat) t v, Try.f3.params[j]? = some t → args[j]? = some v → Value.okWide Try.prog W .any base t v := hval0
  refine law_step (C := Try.checked) 4 (by kernel_rfl) (by kernel_rfl) Try.underlying4 rfl rfl (fun ds hd => ?_) hW ?_
  · match ds, hd with
    | [_, _, _], _ => exact ⟨rfl, rfl, rfl⟩
  obtain ⟨p, q, hA0, hV, rfl, hfz, hnd⟩ := hW
  have hA : DataW.TrodAll enc Try.prog W 0 (fun _ => true) true Try.f3.params.toList args.toList ds p := hA0
  rw [Try.params3] at hA hval
  obtain ⟨v0, vs0, d0, ds0, p0, q0, hargs, rfl, rfl, h0, r0⟩ := trodAll_cons hA
  obtain ⟨v1, vs1, d1, ds1, p1, q1, rfl, rfl, rfl, h1, r1⟩ := trodAll_cons r0
  obtain ⟨v2, vs2, d2, ds2, p2, q2, rfl, rfl, rfl, h2, r2⟩ := trodAll_cons r1
  obtain ⟨rfl, rfl, rfl⟩ := trodAll_nil r2
  obtain rfl : args = #[v0, v1, v2] := by cases args; simp_all
  obtain ⟨ve0, vp0, V0, a0, rfl, w0⟩ := log_arg (hval 0 _ v0 rfl rfl) h0
  obtain ⟨a1, rfl, w1⟩ := arg_int Try.underlying3 (hval 1 _ v1 rfl rfl) h1
  obtain ⟨a2, rfl, w2⟩ := arg_int Try.underlying3 (hval 2 _ v2 rfl rfl) h2
  exact (raceFinds_all W ve0 vp0 V0 a0 w0 a1 a2).mono fun e w' h => ⟨h.1, h.2.below⟩
end raceFinds

/-- The statement. -/
theorem raceFinds_holds : Rows.RaceFindsSaid :=
  OpenClaim.holds_of_wide 3 Try.f3 rfl rfl rfl rfl rfl rfl rfl ⟨rfl, rfl, rfl, rfl, rfl⟩ rfl rfl rfl rfl rfl (by kernel_rfl) Try.func3 (by kernel_rfl)
    (of_decide_eq_true (by kernel_rfl)) (by unfold Func.isWrapper; first | (rw [if_pos (by decide +kernel)]; kernel_rfl) | (rw [if_neg (by decide +kernel)]; exact ⟨rfl, rfl⟩))
    (fun os started H enc _ => raceFinds.lifted os started H enc)
#print axioms raceFinds_holds
end Go.Proofs.Ythmkcgiiakinmaa
