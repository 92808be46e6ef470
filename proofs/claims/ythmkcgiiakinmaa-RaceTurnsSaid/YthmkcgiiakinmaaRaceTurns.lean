/-
  RaceTurns: the walk of renlaw17.RaceTurns. No condition.
-/
import Derived.Test.YthmkcgiiakinmaaRaceFst
namespace Go.Ren
theorem dtL_le (L : Lg) : (dtL L).length ≤ (cfL L).length := List.length_filter_le _ _
end Go.Ren
namespace Go.Proofs.Ythmkcgiiakinmaa
open Go.Ren Go.RowKit
set_option linter.unusedVariables false

set_option maxRecDepth 100000 in
set_option maxHeartbeats 1600000 in
theorem raceTurns_all (w : World) (ve vp : Value) (V : Nat → Vs) (L : Lg) (h : LogIn w ve vp V L) (a b : Int) :
    Calls Try.prog 4 #[.agg #[ve, vp], .int .i64 a, .int .i64 b] w (FPost true w) := by
  have q1 := Sl.cells_eq h.row
  have q2 := Sl.cells_eq h.prow
  have s1 := Sl.run_st (P := Try.prog) h.row
  have s2 := Sl.run_st (P := Try.prog) h.prow
  obtain ⟨w0, hw0⟩ : ∃ w0, w0 = w.alloc (.cells #[ve, vp] 25) := ⟨_, rfl⟩
  obtain ⟨g0, hg0⟩ : ∃ g, g = w.heap.size := ⟨_, rfl⟩
  have x0 : Ext w w0 := by rw [hw0]; exact (Mod.refl _ _).alloc _
  have b0 : LogBox w0 g0 ve vp := ⟨by rw [hw0, hg0]; exact heap_alloc_new _ _⟩
  have HW := Lib.hid (And.intro hw0 (And.intro hg0 x0))
  have KE : Hid (∀ w', Ext w0 w' → LogIn w' ve vp V L ∧ LogBox w' g0 ve vp) := Lib.hid fun w' x => ⟨h.ext (x0.trans x), b0.ext x⟩
  have HI := Lib.hid (h.row.run_idx (P := Try.prog) IEv.und IEv.size .i64)
  have HJ := Lib.hid (h.prow.run_idx (P := Try.prog) IP.und IP.size .i64)
  have l1 := h.row.run_len (P := Try.prog) IEv.und 3
  have l2 := h.prow.run_len (P := Try.prog) IP.und 3
  clear hw0 hg0 x0 b0 h
  go_enter Try.func4, Try.ntmps4
  go_upto_region 1 with fail
  rw [← HW.out.1, ← HW.out.2.1]
  clear s1 s2
  go_wp2_with fail
  refine (first17_any _).mono ?_
  rintro e w1 ⟨rfl, x1⟩
  obtain ⟨c0, c1⟩ := (KE.out _ x1).2.cells
  go_wp2_with fail
  refine (few_any _ _ _ V L (KE.out _ x1).1 40 (by decide)).mono ?_
  rintro r w2 ⟨⟨r, rfl, hf⟩, y2⟩
  have X2 : Ext w0 w2 := x1.trans y2
  clear c0 c1
  obtain ⟨c0, c1⟩ := (KE.out _ X2).2.cells
  cases r with
  | false =>
    clear hf
    go_wp2_with fail
    refine (first17_any _).mono ?_
    rintro e w3 ⟨rfl, x3⟩
    go_wp2_with fail
    go_ret
    exact ⟨rfl, (HW.out.2.2.trans X2).trans x3⟩
  | true =>
    have HS : Hid (L.ev.length ≤ 40 ∧ L.pr.length ≤ 40 ∧ ∀ i, i < L.ev.length → (evn L.ev i).rd.length ≤ 20000 ∧ (evn L.ev i).wr.length ≤ 20000 ∧ (evn L.ev i).fr.length ≤ 20000) := Lib.hid (hf rfl)
    have hle : (L.ev.length : Int) ≤ 40 := by have := HS.out.1; omega
    have hle2 : (L.pr.length : Int) ≤ 40 := by have := HS.out.2.1; omega
    clear hf
    have KF : Hid (∀ w', Ext w2 w' → w'.cell? ⟨g0, 0, none⟩ = some ve ∧ w'.cell? ⟨g0, 1, none⟩ = some vp) := Lib.hid fun w' x => (KE.out _ (X2.trans x)).2.cells
    obtain ⟨C, hC⟩ : ∃ C, C = cfB L a b := ⟨_, rfl⟩
    obtain ⟨D, hD⟩ : ∃ D, D = (C && rcB L a b) := ⟨_, rfl⟩
    have HC := Lib.hid hC.symm
    have HD : Hid (dtB L a b = D) := Lib.hid (by rw [hD, hC]; rfl)
    have HDC := Lib.hid hD
    clear c0 c1 hC hD
    go_upto_region 5 with fail
    refine wp_region_plan [(0, true), (1, true), (2, true), (4, true), (5, true), (6, true), (3, false), (7, false), (8, true), (9, true)] (fun w' => w'.cell? ⟨g0, 0, none⟩ = some ve ∧ w'.cell? ⟨g0, 1, none⟩ = some vp) (by kernel_rfl) (by kernel_rfl) (by kernel_rfl) (fun _ d _ _ _ h => by cases d <;> exact h) (KF.out _ (Mod.drew (Mod.refl _ _))) ?_
    simp only [planL, getO]
    iterate 6 (refine plan_take (v := ?_) (by rfl) (fun wS hS => ?_) ?_; rotate_left; (focus ((try dsimp only at hS); go_simp; (try with_reducible rfl); done)); (try simp only [Act.put, List.setIfInBounds_toArray, List.set_cons_zero, List.set_cons_succ]))
    refine plan_call (fun K hK => ?_)
    go_simp
    go_at_call 16; refine (conflict_any _ ve vp V L (KE.out _ (X2.trans (Mod.drew (Mod.refl _ _)))).1 (by have := HS.out.1; omega) a b).mono ?_; rintro e w3 ⟨rfl, y3⟩; have E3 : Ext w2 w3 := Mod.trans (Mod.drew (Mod.refl _ _)) y3; rw [HC.out]
    refine hK.out _ _ (KF.out _ E3) ?_
    clear hK K
    (try simp only [Act.put, List.setIfInBounds_toArray, List.set_cons_zero, List.set_cons_succ])
    refine plan_call (fun K hK => ?_)
    go_simp
    go_at_call 18; refine (data_any _ ve vp V L (KE.out _ (X2.trans E3)).1 (by have := HS.out.1; omega) a b).mono ?_; rintro e w4 ⟨rfl, y4⟩; have E4 : Ext w2 w4 := Mod.trans E3 y4; rw [HD.out]
    refine hK.out _ _ (KF.out _ E4) ?_
    clear hK K
    (try simp only [Act.put, List.setIfInBounds_toArray, List.set_cons_zero, List.set_cons_succ])
    iterate 2 (refine plan_take (v := ?_) (by rfl) (fun wS hS => ?_) ?_; rotate_left; (focus ((try dsimp only at hS); go_simp; (try with_reducible rfl); done)); (try simp only [Act.put, List.setIfInBounds_toArray, List.set_cons_zero, List.set_cons_succ]))
    refine plan_nil ?_
    obtain ⟨c0, c1⟩ := KF.out _ E4
    cases C with
    | false =>
      obtain rfl : D = false := HDC.out
      go_wp2_with fail
      refine (conflict_any _ ve vp V L (KE.out _ (X2.trans E4)).1 (by have := HS.out.1; omega) b a).mono ?_
      rintro e w5 ⟨rfl, y5⟩
      have E5 : Ext w2 w5 := E4.trans y5
      rw [cfB_comm, HC.out]
      clear c0 c1
      obtain ⟨c0, c1⟩ := KF.out _ E5
      go_wp2_with fail
      refine (data_any _ ve vp V L (KE.out _ (X2.trans E5)).1 (by have := HS.out.1; omega) b a).mono ?_
      rintro e w6 ⟨rfl, y6⟩
      have E6 : Ext w2 w6 := E5.trans y6
      rw [dtB_comm, HD.out]
      clear c0 c1
      obtain ⟨c0, c1⟩ := KF.out _ E6
      go_wp2_with fail
      refine (rbefore_any _ ve vp V L (KE.out _ (X2.trans E6)).1 (by have := HS.out.1; omega)).mono ?_
      rintro e w7 h7
      obtain ⟨p7, rfl, r7, y7⟩ := rpost_is h7
      have HR7 := Lib.hid r7
      have HX7 := Lib.hid (E6.trans y7)
      clear h7 r7 c0 c1
      go_upto_region 9 with fail
      refine wp_region_plan [(0, true), (1, true), (2, true), (3, true), (4, true), (5, true), (6, true), (7, true), (8, true), (9, true), (10, true), (11, true), (12, false), (13, true), (14, true), (15, true), (16, true), (17, true), (18, false), (19, true), (20, true), (21, true), (22, true), (23, true), (24, true), (25, true), (26, true), (27, true), (28, true), (29, true), (30, true), (31, true), (32, true), (33, true), (34, true), (35, true), (36, true)] (fun w' => w'.cell? ⟨g0, 0, none⟩ = some ve ∧ w'.cell? ⟨g0, 1, none⟩ = some vp) (by kernel_rfl) (by kernel_rfl) (by kernel_rfl) (fun _ d _ _ _ h => by cases d <;> exact h) (KF.out _ (HX7.out.trans (Mod.drew (Mod.refl _ _)))) ?_
      simp only [planL, getO]
      iterate 5 (refine plan_take (v := ?_) (by rfl) (fun wS hS => ?_) ?_; rotate_left; (focus ((try dsimp only at hS); go_simp; (try with_reducible rfl); done)); (try simp only [Act.put, List.setIfInBounds_toArray, List.set_cons_zero, List.set_cons_succ]))
      iterate 7 (refine plan_skip (by rfl) ?_; (try simp only [Act.put, List.setIfInBounds_toArray, List.set_cons_zero, List.set_cons_succ]))
      (refine plan_skip (by rfl) ?_; (try simp only [Act.put, List.setIfInBounds_toArray, List.set_cons_zero, List.set_cons_succ]))
      iterate 5 (refine plan_skip (by rfl) ?_; (try simp only [Act.put, List.setIfInBounds_toArray, List.set_cons_zero, List.set_cons_succ]))
      (refine plan_skip (by rfl) ?_; (try simp only [Act.put, List.setIfInBounds_toArray, List.set_cons_zero, List.set_cons_succ]))
      iterate 16 (refine plan_skip (by rfl) ?_; (try simp only [Act.put, List.setIfInBounds_toArray, List.set_cons_zero, List.set_cons_succ]))
      iterate 2 (refine plan_take (v := ?_) (by rfl) (fun wS hS => ?_) ?_; rotate_left; (focus ((try dsimp only at hS); go_simp; (try with_reducible rfl); done)); (try simp only [Act.put, List.setIfInBounds_toArray, List.set_cons_zero, List.set_cons_succ]))
      refine plan_nil ?_
      go_upto_region 11 with fail
      refine wp_region_plan [(0, false), (1, true), (2, true), (5, true), (3, false), (4, true), (6, false), (7, true), (8, true), (9, true), (10, true)] (fun w' => w'.cell? ⟨g0, 0, none⟩ = some ve ∧ w'.cell? ⟨g0, 1, none⟩ = some vp) (by kernel_rfl) (by kernel_rfl) (by kernel_rfl) (fun _ d _ _ _ h => by cases d <;> exact h) (KF.out _ ((HX7.out.trans (Mod.drew (Mod.refl _ _))).trans (Mod.drew (Mod.refl _ _)))) ?_
      simp only [planL, getO]
      refine plan_call (fun K hK => ?_)
      go_simp
      go_at_call 13; refine (first17_any _).mono ?_; rintro e w8 ⟨rfl, y8⟩; have E8 : Ext w2 w8 := Mod.trans ((HX7.out.trans (Mod.drew (Mod.refl _ _))).trans (Mod.drew (Mod.refl _ _))) y8
      refine hK.out _ _ (KF.out _ E8) ?_
      clear hK K
      (try simp only [Act.put, List.setIfInBounds_toArray, List.set_cons_zero, List.set_cons_succ])
      iterate 3 (refine plan_take (v := ?_) (by rfl) (fun wS hS => ?_) ?_; rotate_left; (focus ((try dsimp only at hS); go_simp; (try with_reducible rfl); done)); (try simp only [Act.put, List.setIfInBounds_toArray, List.set_cons_zero, List.set_cons_succ]))
      refine plan_call (fun K hK => ?_)
      go_simp
      go_at_call 23; refine (datas_any _ ve vp V L (KE.out _ (X2.trans E8)).1 (by have := HS.out.1; omega)).mono ?_; rintro e w9 ⟨dv, rfl, od, y9, -⟩; have E9 : Ext w2 w9 := Mod.trans E8 y9; have ld := od.sl.run_len (P := Try.prog) IP.und 3; clear od
      refine hK.out _ _ (KF.out _ E9) ?_
      clear hK K
      (try simp only [Act.put, List.setIfInBounds_toArray, List.set_cons_zero, List.set_cons_succ])
      (refine plan_take (v := ?_) (by rfl) (fun wS hS => ?_) ?_; rotate_left; (focus ((try dsimp only at hS); go_simp; (try with_reducible rfl); done)); (try simp only [Act.put, List.setIfInBounds_toArray, List.set_cons_zero, List.set_cons_succ]))
      refine plan_call (fun K hK => ?_)
      go_simp
      go_at_call 21; refine (conflicts_any _ ve vp V L (KE.out _ (X2.trans E9)).1 (by have := HS.out.1; omega)).mono ?_; rintro e wa ⟨cv, rfl, oc, ya, -⟩; have Ea : Ext w2 wa := Mod.trans E9 ya; have lc := oc.sl.run_len (P := Try.prog) IP.und 3; clear oc
      refine hK.out _ _ (KF.out _ Ea) ?_
      clear hK K
      (try simp only [Act.put, List.setIfInBounds_toArray, List.set_cons_zero, List.set_cons_succ])
      iterate 4 (refine plan_take (v := ?_) (by rfl) (fun wS hS => ?_) ?_; rotate_left; (focus ((try dsimp only at hS); go_simp; (try with_reducible rfl); done)); (try simp only [Act.put, List.setIfInBounds_toArray, List.set_cons_zero, List.set_cons_succ]))
      refine plan_nil ?_
      go_wp2_with fail
      go_ret
      exact ⟨ret_bool (decide_eq_true (dtL_le L)), HW.out.2.2.trans (X2.trans Ea)⟩
    | true =>
      obtain ⟨t1, t2, t3, t4⟩ := turns17 HC.out
      have HH := Lib.hid (And.intro t2 t3)
      obtain ⟨hm, x, y, e1, e2, h1, h2, -⟩ := cfB_nat HC.out
      subst e1
      subst e2
      rw [Int.toNat_natCast, Int.toNat_natCast] at t4
      have hne : ((x : Int) == (y : Int)) = false := by simp at t1 ⊢; exact t1
      have i0 := HI.out x h1
      have i1 := HI.out y h2
      obtain ⟨z1, hz1⟩ : ∃ z, z = (evn L.ev x).ag := ⟨_, rfl⟩
      obtain ⟨z2, hz2⟩ : ∃ z, z = (evn L.ev y).ag := ⟨_, rfl⟩
      obtain ⟨A1, hA1⟩ : ∃ A, A = at_ ve (x * 10) := ⟨_, rfl⟩
      obtain ⟨A2, hA2⟩ : ∃ A, A = at_ ve (y * 10) := ⟨_, rfl⟩
      rw [← hz1, ← hz2] at t4
      have hne2 : (z1 == z2) = false := by simpa using t4
      rw [← hA1] at i0
      rw [← hA2] at i1
      have KA0 : Hid (∀ w', Ext w2 w' → w'.cell? ⟨g0, 0, none⟩ = some ve ∧ w'.cell? A1 = some (.int .i64 z1) ∧ w'.cell? A2 = some (.int .i64 z2)) := Lib.hid fun w' z => by
        have h3 := (KE.out _ (X2.trans z)).1.cells h1
        have h4 := (KE.out _ (X2.trans z)).1.cells h2
        rw [← hz1, ← hA1] at h3
        rw [← hz2, ← hA2] at h4
        exact ⟨(KF.out _ z).1, h3.1, h4.1⟩
      clear t1 t2 t3 t4 hm h1 h2 hz1 hz2 hA1 hA2
      cases D with
      | false =>
        go_wp2_with fail
        refine (conflict_any _ ve vp V L (KE.out _ (X2.trans E4)).1 (by have := HS.out.1; omega) y x).mono ?_
        rintro e w5 ⟨rfl, y5⟩
        have E5 : Ext w2 w5 := E4.trans y5
        rw [cfB_comm, HC.out]
        clear c0 c1
        obtain ⟨c0, c1⟩ := KF.out _ E5
        go_wp2_with fail
        refine (data_any _ ve vp V L (KE.out _ (X2.trans E5)).1 (by have := HS.out.1; omega) y x).mono ?_
        rintro e w6 ⟨rfl, y6⟩
        have E6 : Ext w2 w6 := E5.trans y6
        rw [dtB_comm, HD.out]
        clear c0 c1
        obtain ⟨c0, c1⟩ := KF.out _ E6
        go_wp2_with fail
        refine (rbefore_any _ ve vp V L (KE.out _ (X2.trans E6)).1 (by have := HS.out.1; omega)).mono ?_
        rintro e w7 h7
        obtain ⟨p7, rfl, r7, y7⟩ := rpost_is h7
        have HR7 := Lib.hid r7
        have HX7 := Lib.hid (E6.trans y7)
        clear h7 r7 c0 c1
        go_upto_region 9 with fail
        have KA : Hid (∀ w', Ext w7 w' → w'.cell? ⟨g0, 0, none⟩ = some ve ∧ w'.cell? A1 = some (.int .i64 z1) ∧ w'.cell? A2 = some (.int .i64 z2)) := Lib.hid fun w' z => KA0.out _ (HX7.out.trans z)
        refine wp_region_plan [(0, true), (1, true), (2, true), (3, true), (4, true), (5, true), (6, true), (7, true), (8, true), (9, true), (10, true), (11, true), (12, false), (13, true), (14, true), (15, true), (16, true), (17, true), (18, false), (19, true), (20, true), (21, true), (22, true), (23, true), (24, true), (25, true), (26, true), (27, true), (28, true), (29, true), (30, true), (31, true), (32, true), (33, true), (34, true), (35, true), (36, true)] (fun w' => w'.cell? ⟨g0, 0, none⟩ = some ve ∧ w'.cell? A1 = some (.int .i64 z1) ∧ w'.cell? A2 = some (.int .i64 z2)) (by kernel_rfl) (by kernel_rfl) (by kernel_rfl) (fun _ d _ _ _ h => by cases d <;> exact h) (KA.out _ (Mod.drew (Mod.refl _ _))) ?_
        simp only [planL, getO]
        iterate 12 (refine plan_take (v := ?_) (by rfl) (fun wS hS => ?_) ?_; rotate_left; (focus ((try dsimp only at hS); go_simp; (try with_reducible rfl); done)); (try simp only [Act.put, List.setIfInBounds_toArray, List.set_cons_zero, List.set_cons_succ]))
        refine plan_call (fun K hK => ?_)
        go_simp
        go_at_call 27; refine (has_any _ _ _ _ (HR7.out.ext (Mod.drew (Mod.refl _ _))) _ _).mono ?_; rintro e v1 ⟨rfl, u1⟩; have U1 : Ext w7 v1 := Mod.trans (Mod.drew (Mod.refl _ _)) u1; rw [HH.out.1]
        refine hK.out _ _ (KA.out _ U1) ?_
        clear hK K
        (try simp only [Act.put, List.setIfInBounds_toArray, List.set_cons_zero, List.set_cons_succ])
        iterate 5 (refine plan_take (v := ?_) (by rfl) (fun wS hS => ?_) ?_; rotate_left; (focus ((try dsimp only at hS); go_simp; (try with_reducible rfl); done)); (try simp only [Act.put, List.setIfInBounds_toArray, List.set_cons_zero, List.set_cons_succ]))
        refine plan_call (fun K hK => ?_)
        go_simp
        go_at_call 27; refine (has_any _ _ _ _ (HR7.out.ext U1) _ _).mono ?_; rintro e v2 ⟨rfl, u2⟩; have U2 : Ext w7 v2 := Mod.trans U1 u2; rw [HH.out.2]
        refine hK.out _ _ (KA.out _ U2) ?_
        clear hK K
        (try simp only [Act.put, List.setIfInBounds_toArray, List.set_cons_zero, List.set_cons_succ])
        iterate 18 (refine plan_take (v := ?_) (by rfl) (fun wS hS => ?_) ?_; rotate_left; (focus ((try dsimp only at hS); go_simp; (try with_reducible rfl); done)); (try simp only [Act.put, List.setIfInBounds_toArray, List.set_cons_zero, List.set_cons_succ]))
        refine plan_nil ?_
        go_upto_region 11 with fail
        refine wp_region_plan [(0, false), (1, true), (2, true), (5, true), (3, false), (4, true), (6, false), (7, true), (8, true), (9, true), (10, true)] (fun w' => w'.cell? ⟨g0, 0, none⟩ = some ve ∧ w'.cell? ⟨g0, 1, none⟩ = some vp) (by kernel_rfl) (by kernel_rfl) (by kernel_rfl) (fun _ d _ _ _ h => by cases d <;> exact h) (KF.out _ ((HX7.out.trans U2).trans (Mod.drew (Mod.refl _ _)))) ?_
        simp only [planL, getO]
        refine plan_call (fun K hK => ?_)
        go_simp
        go_at_call 13; refine (first17_any _).mono ?_; rintro e w8 ⟨rfl, y8⟩; have E8 : Ext w2 w8 := Mod.trans ((HX7.out.trans U2).trans (Mod.drew (Mod.refl _ _))) y8
        refine hK.out _ _ (KF.out _ E8) ?_
        clear hK K
        (try simp only [Act.put, List.setIfInBounds_toArray, List.set_cons_zero, List.set_cons_succ])
        iterate 3 (refine plan_take (v := ?_) (by rfl) (fun wS hS => ?_) ?_; rotate_left; (focus ((try dsimp only at hS); go_simp; (try with_reducible rfl); done)); (try simp only [Act.put, List.setIfInBounds_toArray, List.set_cons_zero, List.set_cons_succ]))
        refine plan_call (fun K hK => ?_)
        go_simp
        go_at_call 23; refine (datas_any _ ve vp V L (KE.out _ (X2.trans E8)).1 (by have := HS.out.1; omega)).mono ?_; rintro e w9 ⟨dv, rfl, od, y9, -⟩; have E9 : Ext w2 w9 := Mod.trans E8 y9; have ld := od.sl.run_len (P := Try.prog) IP.und 3; clear od
        refine hK.out _ _ (KF.out _ E9) ?_
        clear hK K
        (try simp only [Act.put, List.setIfInBounds_toArray, List.set_cons_zero, List.set_cons_succ])
        (refine plan_take (v := ?_) (by rfl) (fun wS hS => ?_) ?_; rotate_left; (focus ((try dsimp only at hS); go_simp; (try with_reducible rfl); done)); (try simp only [Act.put, List.setIfInBounds_toArray, List.set_cons_zero, List.set_cons_succ]))
        refine plan_call (fun K hK => ?_)
        go_simp
        go_at_call 21; refine (conflicts_any _ ve vp V L (KE.out _ (X2.trans E9)).1 (by have := HS.out.1; omega)).mono ?_; rintro e wa ⟨cv, rfl, oc, ya, -⟩; have Ea : Ext w2 wa := Mod.trans E9 ya; have lc := oc.sl.run_len (P := Try.prog) IP.und 3; clear oc
        refine hK.out _ _ (KF.out _ Ea) ?_
        clear hK K
        (try simp only [Act.put, List.setIfInBounds_toArray, List.set_cons_zero, List.set_cons_succ])
        iterate 4 (refine plan_take (v := ?_) (by rfl) (fun wS hS => ?_) ?_; rotate_left; (focus ((try dsimp only at hS); go_simp; (try with_reducible rfl); done)); (try simp only [Act.put, List.setIfInBounds_toArray, List.set_cons_zero, List.set_cons_succ]))
        refine plan_nil ?_
        go_wp2_with fail
        go_ret
        exact ⟨ret_bool (decide_eq_true (dtL_le L)), HW.out.2.2.trans (X2.trans Ea)⟩
      | true =>
        go_wp2_with fail
        refine (conflict_any _ ve vp V L (KE.out _ (X2.trans E4)).1 (by have := HS.out.1; omega) y x).mono ?_
        rintro e w5 ⟨rfl, y5⟩
        have E5 : Ext w2 w5 := E4.trans y5
        rw [cfB_comm, HC.out]
        clear c0 c1
        obtain ⟨c0, c1⟩ := KF.out _ E5
        go_wp2_with fail
        refine (data_any _ ve vp V L (KE.out _ (X2.trans E5)).1 (by have := HS.out.1; omega) y x).mono ?_
        rintro e w6 ⟨rfl, y6⟩
        have E6 : Ext w2 w6 := E5.trans y6
        rw [dtB_comm, HD.out]
        clear c0 c1
        obtain ⟨c0, c1⟩ := KF.out _ E6
        go_wp2_with fail
        refine (rbefore_any _ ve vp V L (KE.out _ (X2.trans E6)).1 (by have := HS.out.1; omega)).mono ?_
        rintro e w7 h7
        obtain ⟨p7, rfl, r7, y7⟩ := rpost_is h7
        have HR7 := Lib.hid r7
        have HX7 := Lib.hid (E6.trans y7)
        clear h7 r7 c0 c1
        go_upto_region 9 with fail
        have KA : Hid (∀ w', Ext w7 w' → w'.cell? ⟨g0, 0, none⟩ = some ve ∧ w'.cell? A1 = some (.int .i64 z1) ∧ w'.cell? A2 = some (.int .i64 z2)) := Lib.hid fun w' z => KA0.out _ (HX7.out.trans z)
        refine wp_region_plan [(0, true), (1, true), (2, true), (3, true), (4, true), (5, true), (6, true), (7, true), (8, true), (9, true), (10, true), (11, true), (12, false), (13, true), (14, true), (15, true), (16, true), (17, true), (18, false), (19, true), (20, true), (21, true), (22, true), (23, true), (24, true), (25, true), (26, true), (27, true), (28, true), (29, true), (30, true), (31, true), (32, true), (33, true), (34, true), (35, true), (36, true)] (fun w' => w'.cell? ⟨g0, 0, none⟩ = some ve ∧ w'.cell? A1 = some (.int .i64 z1) ∧ w'.cell? A2 = some (.int .i64 z2)) (by kernel_rfl) (by kernel_rfl) (by kernel_rfl) (fun _ d _ _ _ h => by cases d <;> exact h) (KA.out _ (Mod.drew (Mod.refl _ _))) ?_
        simp only [planL, getO]
        iterate 12 (refine plan_take (v := ?_) (by rfl) (fun wS hS => ?_) ?_; rotate_left; (focus ((try dsimp only at hS); go_simp; (try with_reducible rfl); done)); (try simp only [Act.put, List.setIfInBounds_toArray, List.set_cons_zero, List.set_cons_succ]))
        refine plan_call (fun K hK => ?_)
        go_simp
        go_at_call 27; refine (has_any _ _ _ _ (HR7.out.ext (Mod.drew (Mod.refl _ _))) _ _).mono ?_; rintro e v1 ⟨rfl, u1⟩; have U1 : Ext w7 v1 := Mod.trans (Mod.drew (Mod.refl _ _)) u1; rw [HH.out.1]
        refine hK.out _ _ (KA.out _ U1) ?_
        clear hK K
        (try simp only [Act.put, List.setIfInBounds_toArray, List.set_cons_zero, List.set_cons_succ])
        iterate 5 (refine plan_take (v := ?_) (by rfl) (fun wS hS => ?_) ?_; rotate_left; (focus ((try dsimp only at hS); go_simp; (try with_reducible rfl); done)); (try simp only [Act.put, List.setIfInBounds_toArray, List.set_cons_zero, List.set_cons_succ]))
        refine plan_call (fun K hK => ?_)
        go_simp
        go_at_call 27; refine (has_any _ _ _ _ (HR7.out.ext U1) _ _).mono ?_; rintro e v2 ⟨rfl, u2⟩; have U2 : Ext w7 v2 := Mod.trans U1 u2; rw [HH.out.2]
        refine hK.out _ _ (KA.out _ U2) ?_
        clear hK K
        (try simp only [Act.put, List.setIfInBounds_toArray, List.set_cons_zero, List.set_cons_succ])
        iterate 18 (refine plan_take (v := ?_) (by rfl) (fun wS hS => ?_) ?_; rotate_left; (focus ((try dsimp only at hS); go_simp; (try with_reducible rfl); done)); (try simp only [Act.put, List.setIfInBounds_toArray, List.set_cons_zero, List.set_cons_succ]))
        refine plan_nil ?_
        go_upto_region 11 with fail
        refine wp_region_plan [(0, false), (1, true), (2, true), (5, true), (3, false), (4, true), (6, false), (7, true), (8, true), (9, true), (10, true)] (fun w' => w'.cell? ⟨g0, 0, none⟩ = some ve ∧ w'.cell? ⟨g0, 1, none⟩ = some vp) (by kernel_rfl) (by kernel_rfl) (by kernel_rfl) (fun _ d _ _ _ h => by cases d <;> exact h) (KF.out _ ((HX7.out.trans U2).trans (Mod.drew (Mod.refl _ _)))) ?_
        simp only [planL, getO]
        refine plan_call (fun K hK => ?_)
        go_simp
        go_at_call 13; refine (first17_any _).mono ?_; rintro e w8 ⟨rfl, y8⟩; have E8 : Ext w2 w8 := Mod.trans ((HX7.out.trans U2).trans (Mod.drew (Mod.refl _ _))) y8
        refine hK.out _ _ (KF.out _ E8) ?_
        clear hK K
        (try simp only [Act.put, List.setIfInBounds_toArray, List.set_cons_zero, List.set_cons_succ])
        iterate 3 (refine plan_take (v := ?_) (by rfl) (fun wS hS => ?_) ?_; rotate_left; (focus ((try dsimp only at hS); go_simp; (try with_reducible rfl); done)); (try simp only [Act.put, List.setIfInBounds_toArray, List.set_cons_zero, List.set_cons_succ]))
        refine plan_call (fun K hK => ?_)
        go_simp
        go_at_call 23; refine (datas_any _ ve vp V L (KE.out _ (X2.trans E8)).1 (by have := HS.out.1; omega)).mono ?_; rintro e w9 ⟨dv, rfl, od, y9, -⟩; have E9 : Ext w2 w9 := Mod.trans E8 y9; have ld := od.sl.run_len (P := Try.prog) IP.und 3; clear od
        refine hK.out _ _ (KF.out _ E9) ?_
        clear hK K
        (try simp only [Act.put, List.setIfInBounds_toArray, List.set_cons_zero, List.set_cons_succ])
        (refine plan_take (v := ?_) (by rfl) (fun wS hS => ?_) ?_; rotate_left; (focus ((try dsimp only at hS); go_simp; (try with_reducible rfl); done)); (try simp only [Act.put, List.setIfInBounds_toArray, List.set_cons_zero, List.set_cons_succ]))
        refine plan_call (fun K hK => ?_)
        go_simp
        go_at_call 21; refine (conflicts_any _ ve vp V L (KE.out _ (X2.trans E9)).1 (by have := HS.out.1; omega)).mono ?_; rintro e wa ⟨cv, rfl, oc, ya, -⟩; have Ea : Ext w2 wa := Mod.trans E9 ya; have lc := oc.sl.run_len (P := Try.prog) IP.und 3; clear oc
        refine hK.out _ _ (KF.out _ Ea) ?_
        clear hK K
        (try simp only [Act.put, List.setIfInBounds_toArray, List.set_cons_zero, List.set_cons_succ])
        iterate 4 (refine plan_take (v := ?_) (by rfl) (fun wS hS => ?_) ?_; rotate_left; (focus ((try dsimp only at hS); go_simp; (try with_reducible rfl); done)); (try simp only [Act.put, List.setIfInBounds_toArray, List.set_cons_zero, List.set_cons_succ]))
        refine plan_nil ?_
        go_wp2_with fail
        go_ret
        exact ⟨ret_bool (decide_eq_true (dtL_le L)), HW.out.2.2.trans (X2.trans Ea)⟩
end Go.Proofs.Ythmkcgiiakinmaa
