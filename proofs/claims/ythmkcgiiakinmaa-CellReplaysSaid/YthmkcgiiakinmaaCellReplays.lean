/-
  CellReplays: the walk of renlaw21.CellReplays. No condition.
-/
import Derived.Test.YthmkcgiiakinmaaCellReplay
import Derived.Test.YthmkcgiiakinmaaEvFew
namespace Go.Proofs.Ythmkcgiiakinmaa
open Go.Ren Go.RowKit
set_option linter.unusedVariables false
set_option maxRecDepth 100000 in
set_option maxHeartbeats 1600000 in
theorem cellReplays_all (w : World) (ve vp : Value) (V : Nat → Vs) (L : Lg) (h : LogIn w ve vp V L) (blk pos size : Int) (hb : I64 blk) (ha : I64 pos) (hs : I64 size) :
    Calls Try.prog 7 #[.agg #[ve, vp], .int .i64 blk, .int .i64 pos, .int .i64 size] w (FPost true w) := by
  have HBI := Lib.hid (And.intro hb (And.intro ha hs))
  clear hb ha hs
  have q1 := Sl.cells_eq h.row
  have q2 := Sl.cells_eq h.prow
  have s1 := Sl.run_st (P := Try.prog) h.row
  have s2 := Sl.run_st (P := Try.prog) h.prow
  obtain ⟨w0, hw0⟩ : ∃ w0, w0 = w.alloc (.cells #[ve, vp] 25) := ⟨_, rfl⟩
  obtain ⟨g0, hg0⟩ : ∃ g, g = w.heap.size := ⟨_, rfl⟩
  have x0 : Ext w w0 := by rw [hw0]; exact (Mod.refl _ _).alloc _
  have b0 : LogBox w0 g0 ve vp := ⟨by rw [hw0, hg0]; exact heap_alloc_new _ _⟩
  have HW := Lib.hid (And.intro hw0 (And.intro hg0 x0))
  have KE : Hid (∀ w', Ext w0 w' → LogIn w' ve vp V L ∧ LogBox w' g0 ve vp) := Lib.hid fun w' x => ⟨h.ext (x0.trans x), b0.ext x⟩
  have HI := Lib.hid (h.row.run_idx (P := Try.prog) IEv.und IEv.size .i64)
  have HJ := Lib.hid (h.prow.run_idx (P := Try.prog) IP.und IP.size .i64)
  have l1 := h.row.run_len (P := Try.prog) IEv.und 3
  have l2 := h.prow.run_len (P := Try.prog) IP.und 3
  clear hw0 hg0 x0 b0 h
  go_enter Try.func7, Try.ntmps7
  go_upto_region 1 with fail
  rw [← HW.out.1, ← HW.out.2.1]
  clear s1 s2
  go_wp2_with fail
  refine (first21_any _).mono ?_
  rintro e w1 ⟨rfl, x1⟩
  obtain ⟨c0, c1⟩ := (KE.out _ x1).2.cells
  go_wp2_with fail
  refine (few_any _ _ _ V L (KE.out _ x1).1 40 (by decide)).mono ?_
  rintro r w2 ⟨⟨r, rfl, hf⟩, y2⟩
  have X2 : Ext w0 w2 := x1.trans y2
  clear c0 c1
  obtain ⟨c0, c1⟩ := (KE.out _ X2).2.cells
  cases r with
  | false =>
    clear hf
    go_wp2_with fail
    refine (first21_any _).mono ?_
    rintro e w3 ⟨rfl, x3⟩
    go_wp2_with fail
    go_ret
    exact ⟨rfl, (HW.out.2.2.trans X2).trans x3⟩
  | true =>
    have HS : Hid (L.ev.length ≤ 40 ∧ L.pr.length ≤ 40 ∧ ∀ i, i < L.ev.length → (evn L.ev i).rd.length ≤ 20000 ∧ (evn L.ev i).wr.length ≤ 20000 ∧ (evn L.ev i).fr.length ≤ 20000) := Lib.hid (hf rfl)
    have hle : (L.ev.length : Int) ≤ 40 := by have := HS.out.1; omega
    have hle2 : (L.pr.length : Int) ≤ 40 := by have := HS.out.2.1; omega
    clear hf
    have HSM : Hid (SmL L) := Lib.hid HS.out.2.2
    obtain ⟨C, hC⟩ : ∃ C, C = cleanB L (ldE blk pos size) := ⟨_, rfl⟩
    obtain ⟨D, hD⟩ : ∃ D, D = repB L (ldE blk pos size) := ⟨_, rfl⟩
    have HC := Lib.hid hC.symm
    have HD := Lib.hid hD.symm
    clear hC hD
    go_wp2_with fail
    refine (rlog_any _ ve vp V L (KE.out _ X2).1 (by have := HS.out.1; omega)).mono ?_
    rintro en w3 ⟨hv, rfl, lh, y3⟩
    have t1 := Sl.cells_eq lh.row
    have t3 := Sl.run_st (P := Try.prog) lh.row
    have t4 := Sl.run_st (P := Try.prog) lh.prow
    obtain ⟨w4, hw4⟩ : ∃ W, W = w3.alloc (.cells #[hv, vp] 30) := ⟨_, rfl⟩
    obtain ⟨g4, hg4⟩ : ∃ g, g = w3.heap.size := ⟨_, rfl⟩
    have x4 : Ext w3 w4 := by rw [hw4]; exact (Mod.refl _ _).alloc _
    have b4 : RLogBox w4 g4 hv vp := ⟨by rw [hw4, hg4]; exact heap_alloc_new _ _⟩
    have HB4 := Lib.hid (And.intro hw4 hg4)
    have HX4 := Lib.hid (X2.trans (y3.trans x4))
    have KX : Hid (∀ w', Ext w4 w' → LogIn w' ve vp V L ∧ LogIn w' hv vp V L) := Lib.hid fun w' x => ⟨(KE.out _ (HX4.out.trans x)).1, lh.ext (x4.trans x)⟩
    have KF : Hid (∀ w', Ext w4 w' → w'.cell? ⟨g0, 0, none⟩ = some ve ∧ w'.cell? ⟨g0, 1, none⟩ = some vp ∧ w'.cell? ⟨g4, 0, none⟩ = some hv ∧ w'.cell? ⟨g4, 1, none⟩ = some vp) := Lib.hid fun w' x => by
      obtain ⟨a0, a1⟩ := (KE.out _ (HX4.out.trans x)).2.cells
      obtain ⟨a2, a3⟩ := (b4.ext x).cells
      exact ⟨a0, a1, a2, a3⟩
    clear c0 c1 lh hw4 hg4 x4 b4 y3
    go_upto_region 6 with fail
    rw [← HB4.out.1, ← HB4.out.2]
    clear t3 t4
    refine wp_region_plan [(0, false), (1, true), (2, true), (3, true), (4, true), (5, true), (7, true), (8, true), (9, true), (10, true), (6, false), (11, false), (12, true), (13, true), (14, true), (15, true), (16, true), (17, true), (18, true), (20, true), (21, true), (22, true), (23, true), (19, false), (24, false), (25, true), (26, true), (27, true)] (fun w' => w'.cell? ⟨g0, 0, none⟩ = some ve ∧ w'.cell? ⟨g0, 1, none⟩ = some vp ∧ w'.cell? ⟨g4, 0, none⟩ = some hv ∧ w'.cell? ⟨g4, 1, none⟩ = some vp) (by kernel_rfl) (by kernel_rfl) (by kernel_rfl) (fun _ d _ _ _ h => by cases d <;> exact h) (KF.out _ (Mod.drew (Mod.refl _ _))) ?_
    simp only [planL, getO]
    refine plan_call (fun K hK => ?_)
    go_simp
    go_at_call 32; refine (first21_any _).mono ?_; rintro en v1 ⟨rfl, u1⟩; have U1 : Ext w4 v1 := Mod.trans (Mod.drew (Mod.refl _ _)) u1
    refine hK.out _ _ (KF.out _ U1) ?_
    clear hK K
    (try simp only [Act.put, List.setIfInBounds_toArray, List.set_cons_zero, List.set_cons_succ])
    iterate 9 (refine plan_take (v := ?_) (by rfl) (fun wS hS => ?_) ?_; rotate_left; (focus ((try dsimp only at hS); go_simp; (try with_reducible rfl); done)); (try simp only [Act.put, List.setIfInBounds_toArray, List.set_cons_zero, List.set_cons_succ]))
    refine plan_call (fun K hK => ?_)
    go_simp
    go_at_call 33; refine (clean_any _ ve vp V L (KX.out _ U1).1 blk pos size HBI.out.1 HBI.out.2.1 HBI.out.2.2).mono ?_; rintro en v2 ⟨rfl, u2⟩; have U2 : Ext w4 v2 := Mod.trans U1 u2; rw [HC.out]
    refine hK.out _ _ (KF.out _ U2) ?_
    clear hK K
    (try simp only [Act.put, List.setIfInBounds_toArray, List.set_cons_zero, List.set_cons_succ])
    refine plan_call (fun K hK => ?_)
    go_simp
    go_at_call 34; refine (rclean_any _ hv vp V L (KX.out _ U2).2 HSM.out blk pos size HBI.out.1 HBI.out.2.1 HBI.out.2.2).mono ?_; rintro en v3 ⟨rfl, u3⟩; have U3 : Ext w4 v3 := Mod.trans U2 u3; rw [HC.out]
    refine hK.out _ _ (KF.out _ U3) ?_
    clear hK K
    (try simp only [Act.put, List.setIfInBounds_toArray, List.set_cons_zero, List.set_cons_succ])
    iterate 11 (refine plan_take (v := ?_) (by rfl) (fun wS hS => ?_) ?_; rotate_left; (focus ((try dsimp only at hS); go_simp; (try with_reducible rfl); done)); (try simp only [Act.put, List.setIfInBounds_toArray, List.set_cons_zero, List.set_cons_succ]))
    refine plan_call (fun K hK => ?_)
    go_simp
    go_at_call 35; refine (replay_any _ ve vp V L (KX.out _ U3).1 blk pos size HBI.out.1 HBI.out.2.1 HBI.out.2.2).mono ?_; rintro en v4 ⟨rfl, u4⟩; have U4 : Ext w4 v4 := Mod.trans U3 u4; rw [HD.out]
    refine hK.out _ _ (KF.out _ U4) ?_
    clear hK K
    (try simp only [Act.put, List.setIfInBounds_toArray, List.set_cons_zero, List.set_cons_succ])
    refine plan_call (fun K hK => ?_)
    go_simp
    go_at_call 36; refine (rreplay_any _ hv vp V L (KX.out _ U4).2 HSM.out blk pos size HBI.out.1 HBI.out.2.1 HBI.out.2.2).mono ?_; rintro en v5 ⟨rfl, u5⟩; have U5 : Ext w4 v5 := Mod.trans U4 u5; rw [HD.out]
    refine hK.out _ _ (KF.out _ U5) ?_
    clear hK K
    (try simp only [Act.put, List.setIfInBounds_toArray, List.set_cons_zero, List.set_cons_succ])
    iterate 3 (refine plan_take (v := ?_) (by rfl) (fun wS hS => ?_) ?_; rotate_left; (focus ((try dsimp only at hS); go_simp; (try with_reducible rfl); done)); (try simp only [Act.put, List.setIfInBounds_toArray, List.set_cons_zero, List.set_cons_succ]))
    refine plan_nil ?_
    go_wp2_with fail
    go_ret
    exact ⟨rfl, HW.out.2.2.trans (HX4.out.trans U5)⟩
end Go.Proofs.Ythmkcgiiakinmaa
