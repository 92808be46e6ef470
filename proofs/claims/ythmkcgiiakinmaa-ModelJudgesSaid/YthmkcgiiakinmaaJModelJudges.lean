/-
  ModelJudges: the walk of renlaw16.ModelJudges. No condition.
-/
import Derived.Test.YthmkcgiiakinmaaJRvVal
import Derived.Test.YthmkcgiiakinmaaJLit
import Derived.Test.YthmkcgiiakinmaaJBaseA
namespace Go.Proofs.Ythmkcgiiakinmaa
open Go.Ren Go.RowKit
set_option linter.unusedVariables false
set_option maxRecDepth 100000 in
set_option maxHeartbeats 1600000 in
theorem modelJudges_all (w : World) (ve vp : Value) (V : Nat → Vs) (L : Lg) (h : LogIn w ve vp V L) (ov : Value) (l : List Int) (hov : IntsAt w ov l) :
    Calls Try.prog 8 #[.agg #[ve, vp], ov] w (FPost true w) := by
  have lo := hov.sl.run_len (P := Try.prog) II.und 3
  have HOV := Lib.hid hov
  clear hov
  have q1 := Sl.cells_eq h.row
  have q2 := Sl.cells_eq h.prow
  have s1 := Sl.run_st (P := Try.prog) h.row
  have s2 := Sl.run_st (P := Try.prog) h.prow
  obtain ⟨w0, hw0⟩ : ∃ w0, w0 = w.alloc (.cells #[ve, vp] 25) := ⟨_, rfl⟩
  obtain ⟨g0, hg0⟩ : ∃ g, g = w.heap.size := ⟨_, rfl⟩
  have x0 : Ext w w0 := by rw [hw0]; exact (Mod.refl _ _).alloc _
  have b0 : LogBox w0 g0 ve vp := ⟨by rw [hw0, hg0]; exact heap_alloc_new _ _⟩
  have HW := Lib.hid (And.intro hw0 (And.intro hg0 x0))
  have KE : Hid (∀ w', Ext w0 w' → LogIn w' ve vp V L ∧ LogBox w' g0 ve vp) := Lib.hid fun w' x => ⟨h.ext (x0.trans x), b0.ext x⟩
  have HI := Lib.hid (h.row.run_idx (P := Try.prog) IEv.und IEv.size .i64)
  have HJ := Lib.hid (h.prow.run_idx (P := Try.prog) IP.und IP.size .i64)
  have l1 := h.row.run_len (P := Try.prog) IEv.und 3
  have l2 := h.prow.run_len (P := Try.prog) IP.und 3
  clear hw0 hg0 x0 b0 h
  go_enter Try.func8, Try.ntmps8
  go_upto_region 1 with fail
  rw [← HW.out.1, ← HW.out.2.1]
  clear s1 s2
  go_wp2_with fail
  refine (first16_any _).mono ?_
  rintro e w1 ⟨rfl, x1⟩
  obtain ⟨c0, c1⟩ := (KE.out _ x1).2.cells
  go_wp2_with fail
  refine (few_any _ _ _ V L (KE.out _ x1).1 40 (by decide)).mono ?_
  rintro r w2 ⟨⟨r, rfl, hf⟩, y2⟩
  have X2 : Ext w0 w2 := x1.trans y2
  clear c0 c1
  obtain ⟨c0, c1⟩ := (KE.out _ X2).2.cells
  cases r with
  | false =>
    clear hf
    go_wp2_with fail
    refine (first16_any _).mono ?_
    rintro e w3 ⟨rfl, x3⟩
    go_wp2_with fail
    go_ret
    exact ⟨rfl, (HW.out.2.2.trans X2).trans x3⟩
  | true =>
    have HS : Hid (L.ev.length ≤ 40 ∧ L.pr.length ≤ 40 ∧ ∀ i, i < L.ev.length → (evn L.ev i).rd.length ≤ 20000 ∧ (evn L.ev i).wr.length ≤ 20000 ∧ (evn L.ev i).fr.length ≤ 20000) := Lib.hid (hf rfl)
    have hle : (L.ev.length : Int) ≤ 40 := by have := HS.out.1; omega
    have hle2 : (L.pr.length : Int) ≤ 40 := by have := HS.out.2.1; omega
    clear hf
    by_cases hlo : 100 < l.length
    · have hlo' : (100 : Int) < (l.length : Int) := by omega
      clear hlo
      go_wp2_with fail
      refine (first16_any _).mono ?_
      rintro e w3 ⟨rfl, x3⟩
      go_wp2_with fail
      go_ret
      exact ⟨rfl, (HW.out.2.2.trans X2).trans x3⟩
    · have hlo' : ¬ (100 : Int) < (l.length : Int) := by omega
      have HLO : Hid (l.length ≤ 1000000) := Lib.hid (by omega)
      clear hlo
      have HSM : Hid (SmL L) := Lib.hid HS.out.2.2
      obtain ⟨C, hC⟩ : ∃ C, C = cohI L := ⟨_, rfl⟩
      obtain ⟨T, hT⟩ : ∃ C, C = tearI L := ⟨_, rfl⟩
      obtain ⟨O, hO⟩ : ∃ C, C = ordI L l := ⟨_, rfl⟩
      obtain ⟨A, hA⟩ : ∃ C, C = atoI L l := ⟨_, rfl⟩
      obtain ⟨B, hB⟩ : ∃ C, C = valB L l := ⟨_, rfl⟩
      have HC := Lib.hid hC.symm
      have HT := Lib.hid hT.symm
      have HO := Lib.hid hO.symm
      have HA := Lib.hid hA.symm
      have HV := Lib.hid hB.symm
      clear hC hT hO hA hB
      go_wp2_with fail
      refine (rlog_any _ ve vp V L (KE.out _ X2).1 (by have := HS.out.1; omega)).mono ?_
      rintro en w3 ⟨hv, rfl, lh, y3⟩
      have t1 := Sl.cells_eq lh.row
      have t3 := Sl.run_st (P := Try.prog) lh.row
      have t4 := Sl.run_st (P := Try.prog) lh.prow
      obtain ⟨w4, hw4⟩ : ∃ W, W = w3.alloc (.cells #[hv, vp] 30) := ⟨_, rfl⟩
      obtain ⟨g4, hg4⟩ : ∃ g, g = w3.heap.size := ⟨_, rfl⟩
      have x4 : Ext w3 w4 := by rw [hw4]; exact (Mod.refl _ _).alloc _
      have b4 : RLogBox w4 g4 hv vp := ⟨by rw [hw4, hg4]; exact heap_alloc_new _ _⟩
      have HB4 := Lib.hid (And.intro hw4 hg4)
      have HX4 := Lib.hid (X2.trans (y3.trans x4))
      have KX4 : Hid (∀ w', Ext w4 w' → LogIn w' ve vp V L ∧ LogIn w' hv vp V L) := Lib.hid fun w' x => ⟨(KE.out _ (HX4.out.trans x)).1, lh.ext (x4.trans x)⟩
      have KF4 : Hid (∀ w', Ext w4 w' → w'.cell? ⟨g0, 0, none⟩ = some ve ∧ w'.cell? ⟨g0, 1, none⟩ = some vp ∧ w'.cell? ⟨g4, 0, none⟩ = some hv ∧ w'.cell? ⟨g4, 1, none⟩ = some vp) := Lib.hid fun w' x => by
        obtain ⟨a0, a1⟩ := (KE.out _ (HX4.out.trans x)).2.cells
        obtain ⟨a2, a3⟩ := (b4.ext x).cells
        exact ⟨a0, a1, a2, a3⟩
      clear c0 c1 lh hw4 hg4 x4 b4 y3
      go_upto_region 6 with fail
      rw [← HB4.out.1, ← HB4.out.2]
      clear t3 t4
      go_wp2_with fail
      refine (copy_ints w4 ov l (HOV.out.ext (HW.out.2.2.trans HX4.out)) HLO.out).mono ?_
      rintro en w5 ⟨iv, rfl, oi, y5, -⟩
      have HOI : Hid (IntsAt w5 iv l) := Lib.hid ⟨by have := oi.sl; rwa [List.length_map] at this, HOV.out.ok⟩
      have HX5 := Lib.hid (HX4.out.trans y5)
      have KX : Hid (∀ w', Ext w5 w' → LogIn w' ve vp V L ∧ LogIn w' hv vp V L ∧ IntsAt w' iv l ∧ IntsAt w' ov l) := Lib.hid fun w' x => ⟨(KX4.out _ (y5.trans x)).1, (KX4.out _ (y5.trans x)).2, HOI.out.ext x, HOV.out.ext (HW.out.2.2.trans (HX5.out.trans x))⟩
      have KF : Hid (∀ w', Ext w5 w' → w'.cell? ⟨g0, 0, none⟩ = some ve ∧ w'.cell? ⟨g0, 1, none⟩ = some vp ∧ w'.cell? ⟨g4, 0, none⟩ = some hv ∧ w'.cell? ⟨g4, 1, none⟩ = some vp) := Lib.hid fun w' x => KF4.out _ (y5.trans x)
      clear oi y5
      go_upto_region 7 with fail
      refine wp_region_plan [(0, false), (1, true), (2, true), (4, true), (3, false), (5, false), (6, true), (7, true), (8, true), (9, true), (11, true), (10, false), (12, false), (13, true), (14, true), (15, true), (16, true), (17, true), (19, true), (20, true), (18, false), (21, false), (22, true), (23, true), (24, true), (25, true), (26, true), (28, true), (29, true), (27, false), (30, false), (31, true), (32, true), (33, true), (34, true), (35, true), (37, true), (38, true), (36, false), (39, false), (40, true), (41, true), (42, true), (43, true), (45, true), (44, false), (46, false), (47, false), (48, true), (49, true), (50, true), (51, true), (52, false), (53, true), (54, true)] (fun w' => w'.cell? ⟨g0, 0, none⟩ = some ve ∧ w'.cell? ⟨g0, 1, none⟩ = some vp ∧ w'.cell? ⟨g4, 0, none⟩ = some hv ∧ w'.cell? ⟨g4, 1, none⟩ = some vp) (by kernel_rfl) (by kernel_rfl) (by kernel_rfl) (fun _ d _ _ _ h => by cases d <;> exact h) (KF.out _ (Mod.drew (Mod.refl _ _))) ?_
      simp only [planL, getO]
      refine plan_call (fun K hK => ?_)
      go_simp
      go_at_call 37; refine (first16_any _).mono ?_; rintro en v1 ⟨rfl, u1⟩; have U1 : Ext w5 v1 := Mod.trans (Mod.drew (Mod.refl _ _)) u1
      refine hK.out _ _ (KF.out _ U1) ?_
      clear hK K
      (try simp only [Act.put, List.setIfInBounds_toArray, List.set_cons_zero, List.set_cons_succ])
      iterate 3 (refine plan_take (v := ?_) (by rfl) (fun wS hS => ?_) ?_; rotate_left; (focus ((try dsimp only at hS); go_simp; (try with_reducible rfl); done)); (try simp only [Act.put, List.setIfInBounds_toArray, List.set_cons_zero, List.set_cons_succ]))
      refine plan_call (fun K hK => ?_)
      go_simp
      go_at_call 39; refine (coherent_any _ ve vp V L (KX.out _ U1).1 (by have := HS.out.1; omega)).mono ?_; rintro en v2 ⟨rfl, u2⟩; have U2 : Ext w5 v2 := Mod.trans U1 u2; rw [HC.out]
      refine hK.out _ _ (KF.out _ U2) ?_
      clear hK K
      (try simp only [Act.put, List.setIfInBounds_toArray, List.set_cons_zero, List.set_cons_succ])
      refine plan_call (fun K hK => ?_)
      go_simp
      go_at_call 40; refine (rcoherent_any _ hv vp V L (KX.out _ U2).2.1 HSM.out (by have := HS.out.1; omega)).mono ?_; rintro en v3 ⟨rfl, u3⟩; have U3 : Ext w5 v3 := Mod.trans U2 u3; rw [HC.out]
      refine hK.out _ _ (KF.out _ U3) ?_
      clear hK K
      (try simp only [Act.put, List.setIfInBounds_toArray, List.set_cons_zero, List.set_cons_succ])
      iterate 5 (refine plan_take (v := ?_) (by rfl) (fun wS hS => ?_) ?_; rotate_left; (focus ((try dsimp only at hS); go_simp; (try with_reducible rfl); done)); (try simp only [Act.put, List.setIfInBounds_toArray, List.set_cons_zero, List.set_cons_succ]))
      refine plan_call (fun K hK => ?_)
      go_simp
      go_at_call 41; refine (tearfree_any _ ve vp V L (KX.out _ U3).1 (by have := HS.out.1; omega)).mono ?_; rintro en v4 ⟨rfl, u4⟩; have U4 : Ext w5 v4 := Mod.trans U3 u4; rw [HT.out]
      refine hK.out _ _ (KF.out _ U4) ?_
      clear hK K
      (try simp only [Act.put, List.setIfInBounds_toArray, List.set_cons_zero, List.set_cons_succ])
      refine plan_call (fun K hK => ?_)
      go_simp
      go_at_call 42; refine (rtearfree_any _ hv vp V L (KX.out _ U4).2.1 HSM.out (by have := HS.out.1; omega)).mono ?_; rintro en v5 ⟨rfl, u5⟩; have U5 : Ext w5 v5 := Mod.trans U4 u5; rw [HT.out]
      refine hK.out _ _ (KF.out _ U5) ?_
      clear hK K
      (try simp only [Act.put, List.setIfInBounds_toArray, List.set_cons_zero, List.set_cons_succ])
      iterate 7 (refine plan_take (v := ?_) (by rfl) (fun wS hS => ?_) ?_; rotate_left; (focus ((try dsimp only at hS); go_simp; (try with_reducible rfl); done)); (try simp only [Act.put, List.setIfInBounds_toArray, List.set_cons_zero, List.set_cons_succ]))
      refine plan_call (fun K hK => ?_)
      go_simp
      go_at_call 43; refine (ordered_any _ ve vp V L (KX.out _ U5).1 (by have := HS.out.1; omega) iv l (KX.out _ U5).2.2.1).mono ?_; rintro en v6 ⟨rfl, u6⟩; have U6 : Ext w5 v6 := Mod.trans U5 u6; rw [HO.out]
      refine hK.out _ _ (KF.out _ U6) ?_
      clear hK K
      (try simp only [Act.put, List.setIfInBounds_toArray, List.set_cons_zero, List.set_cons_succ])
      refine plan_call (fun K hK => ?_)
      go_simp
      go_at_call 44; refine (rordered_any _ hv vp V L (KX.out _ U6).2.1 HSM.out (by have := HS.out.1; omega) ov l (KX.out _ U6).2.2.2).mono ?_; rintro en v7 ⟨rfl, u7⟩; have U7 : Ext w5 v7 := Mod.trans U6 u7; rw [HO.out]
      refine hK.out _ _ (KF.out _ U7) ?_
      clear hK K
      (try simp only [Act.put, List.setIfInBounds_toArray, List.set_cons_zero, List.set_cons_succ])
      iterate 7 (refine plan_take (v := ?_) (by rfl) (fun wS hS => ?_) ?_; rotate_left; (focus ((try dsimp only at hS); go_simp; (try with_reducible rfl); done)); (try simp only [Act.put, List.setIfInBounds_toArray, List.set_cons_zero, List.set_cons_succ]))
      refine plan_call (fun K hK => ?_)
      go_simp
      go_at_call 45; refine (atomic_any _ ve vp V L (KX.out _ U7).1 (by have := HS.out.1; omega) iv l (KX.out _ U7).2.2.1).mono ?_; rintro en v8 ⟨rfl, u8⟩; have U8 : Ext w5 v8 := Mod.trans U7 u8; rw [HA.out]
      refine hK.out _ _ (KF.out _ U8) ?_
      clear hK K
      (try simp only [Act.put, List.setIfInBounds_toArray, List.set_cons_zero, List.set_cons_succ])
      refine plan_call (fun K hK => ?_)
      go_simp
      go_at_call 46; refine (ratomic_any _ hv vp V L (KX.out _ U8).2.1 HSM.out (by have := HS.out.1; omega) ov l (KX.out _ U8).2.2.2).mono ?_; rintro en v9 ⟨rfl, u9⟩; have U9 : Ext w5 v9 := Mod.trans U8 u9; rw [HA.out]
      refine hK.out _ _ (KF.out _ U9) ?_
      clear hK K
      (try simp only [Act.put, List.setIfInBounds_toArray, List.set_cons_zero, List.set_cons_succ])
      iterate 7 (refine plan_take (v := ?_) (by rfl) (fun wS hS => ?_) ?_; rotate_left; (focus ((try dsimp only at hS); go_simp; (try with_reducible rfl); done)); (try simp only [Act.put, List.setIfInBounds_toArray, List.set_cons_zero, List.set_cons_succ]))
      refine plan_call (fun K hK => ?_)
      go_simp
      go_at_call 47; refine (valid_any _ ve vp V L (KX.out _ U9).1 (by have := HS.out.1; omega) iv l (KX.out _ U9).2.2.1).mono ?_; rintro en v10 ⟨rfl, u10⟩; have U10 : Ext w5 v10 := Mod.trans U9 u10; rw [HV.out]
      refine hK.out _ _ (KF.out _ U10) ?_
      clear hK K
      (try simp only [Act.put, List.setIfInBounds_toArray, List.set_cons_zero, List.set_cons_succ])
      refine plan_call (fun K hK => ?_)
      go_simp
      go_at_call 48; refine (rvalid_any _ hv vp V L (KX.out _ U10).2.1 HSM.out (by have := HS.out.1; omega) ov l (KX.out _ U10).2.2.2).mono ?_; rintro en v11 ⟨rfl, u11⟩; have U11 : Ext w5 v11 := Mod.trans U10 u11; rw [HV.out]
      refine hK.out _ _ (KF.out _ U11) ?_
      clear hK K
      (try simp only [Act.put, List.setIfInBounds_toArray, List.set_cons_zero, List.set_cons_succ])
      iterate 5 (refine plan_take (v := ?_) (by rfl) (fun wS hS => ?_) ?_; rotate_left; (focus ((try dsimp only at hS); go_simp; (try with_reducible rfl); done)); (try simp only [Act.put, List.setIfInBounds_toArray, List.set_cons_zero, List.set_cons_succ]))
      refine plan_call (fun K hK => ?_)
      go_simp
      go_at_call 50; refine (natural_any _ ve vp V L (KX.out _ U11).1 (by have := HS.out.1; omega)).mono ?_; rintro en v12 ⟨nv, rfl, on, u12⟩; have U12 : Ext w5 v12 := Mod.trans U11 u12; have HN1 := Lib.hid on; clear on
      refine hK.out _ _ (KF.out _ U12) ?_
      clear hK K
      (try simp only [Act.put, List.setIfInBounds_toArray, List.set_cons_zero, List.set_cons_succ])
      refine plan_call (fun K hK => ?_)
      go_simp
      go_at_call 51; refine (rnatural_any _ hv vp V L (KX.out _ U12).2.1 HSM.out (by have := HS.out.1; omega)).mono ?_; rintro en v13 ⟨mv, rfl, om, u13⟩; have U13 : Ext w5 v13 := Mod.trans U12 u13; have HN2 := Lib.hid om; clear om
      refine hK.out _ _ (KF.out _ U13) ?_
      clear hK K
      (try simp only [Act.put, List.setIfInBounds_toArray, List.set_cons_zero, List.set_cons_succ])
      refine plan_call (fun K hK => ?_)
      go_simp
      go_at_call 49; refine (ints_any _ _ _ _ _ (HN1.out.ext u13) HN2.out).mono ?_; rintro en v14 ⟨rfl, dn14, du14⟩; have U14 : Ext w5 v14 := (by rw [du14]; exact Mod.drewN U13 dn14); clear du14; rw [show (natL L == natL L) = true by simp]
      refine hK.out _ _ (KF.out _ U14) ?_
      clear hK K
      (try simp only [Act.put, List.setIfInBounds_toArray, List.set_cons_zero, List.set_cons_succ])
      iterate 4 (refine plan_take (v := ?_) (by rfl) (fun wS hS => ?_) ?_; rotate_left; (focus ((try dsimp only at hS); go_simp; (try with_reducible rfl); done)); (try simp only [Act.put, List.setIfInBounds_toArray, List.set_cons_zero, List.set_cons_succ]))
      refine plan_call (fun K hK => ?_)
      go_simp
      go_at_call 49; refine (ints_any _ _ _ l l (KX.out _ U14).2.2.1 (KX.out _ U14).2.2.2).mono ?_; rintro en v15 ⟨rfl, dn15, du15⟩; have U15 : Ext w5 v15 := (by rw [du15]; exact Mod.drewN U14 dn15); clear du15; rw [show (l == l) = true by simp]
      refine hK.out _ _ (KF.out _ U15) ?_
      clear hK K
      (try simp only [Act.put, List.setIfInBounds_toArray, List.set_cons_zero, List.set_cons_succ])
      iterate 2 (refine plan_take (v := ?_) (by rfl) (fun wS hS => ?_) ?_; rotate_left; (focus ((try dsimp only at hS); go_simp; (try with_reducible rfl); done)); (try simp only [Act.put, List.setIfInBounds_toArray, List.set_cons_zero, List.set_cons_succ]))
      refine plan_nil ?_
      go_wp2_with fail
      go_ret
      exact ⟨rfl, HW.out.2.2.trans (HX5.out.trans U15)⟩
end Go.Proofs.Ythmkcgiiakinmaa
