/-
  RelTells: the walk of renlaw15.RelTells. No condition.
-/
import Derived.Test.YtkibdabbjbcboaaRvBefore
import Derived.Test.YtkibdabbjbcboaaRvList
import Derived.Test.YtkibdabbjbcboaaRelBefore
import Derived.Test.YtkibdabbjbcboaaRelFrom
import Derived.Test.YtkibdabbjbcboaaRelLen
import Derived.Test.YtkibdabbjbcboaaRelFirst
import Derived.Test.YtkibdabbjbcboaaEvFew
import Derived.Test.YtkibdabbjbcboaaPairEq
namespace Go.Proofs.Ytkibdabbjbcboaa
open Go.Ren Go.RowKit
set_option linter.unusedVariables false
set_option maxRecDepth 100000 in
set_option maxHeartbeats 1600000 in
theorem same15_any (w : World) (p : Value) (n : Nat) (M : Nat → Nat → Bool) (rv : Value) (V : Nat → Value) (hr : RelIs w p n M) (hx : RRel w rv V n M) (m : Int) :
    Calls Try.prog 21 #[p, rv, .int .i64 m] w (FPost true w) := by
  obtain ⟨g, rfl⟩ := hr.ptr
  have KR : Hid (∀ w', Ext w w' → RelIs w' (.pointer (some ⟨g, 0, none⟩)) n M ∧ RRel w' rv V n M) := Lib.hid fun w' x => ⟨hr.ext x, hx.ext x⟩
  have ln := hx.len
  have hle : (n : Int) ≤ 64 := by have := hx.le; omega
  have HLL : Hid ((listR n M).length ≤ 5000) := Lib.hid (by have := listP_len M hx.le n; have := hx.le; unfold listR; omega)
  clear hr hx
  go_enter Try.func21, Try.ntmps21
  go_wp2_with fail
  refine (rlen_any _ _ n M (KR.out _ (Mod.refl _ _)).1).mono ?_
  rintro e w' ⟨rfl, rfl⟩
  go_wp2_with fail
  go_loopw [7] (fun s wr => ∃ a : Nat, a ≤ n + 2 ∧ s = .int .i64 ((a : Int) - 1) ∧ Ext w wr) (fun s _ => n + 2 - (intOf s + 1).toNat)
  case atStart => exact ⟨0, Nat.zero_le _, rfl, Mod.refl _ _⟩
  case round =>
    obtain ⟨a, ha, rfl, x⟩ := hrel
    have HX := Lib.hid x
    clear x
    by_cases hlt : a < n + 2
    · have hlt' : (a : Int) - 1 ≤ (n : Int) := by omega
      go_wp2_with fail
      go_loopw [8] (fun s wr => ∃ b : Nat, b ≤ n + 2 ∧ s = .int .i64 ((b : Int) - 1) ∧ Ext w wr) (fun s _ => n + 2 - (intOf s + 1).toNat)
      case atStart => exact ⟨0, Nat.zero_le _, rfl, HX.out⟩
      case round =>
        obtain ⟨b, hb, rfl, x⟩ := hrel
        have HX2 := Lib.hid x
        clear x
        by_cases hbl : b < n + 2
        · have hbl' : (b : Int) - 1 ≤ (n : Int) := by omega
          obtain ⟨a', ha'⟩ : ∃ z, z = (a : Int) - 1 := ⟨_, rfl⟩
          obtain ⟨b', hb'⟩ : ∃ z, z = (b : Int) - 1 := ⟨_, rfl⟩
          obtain ⟨Q, hQ⟩ : ∃ Q, Q = hasB n M ((a : Int) - 1) ((b : Int) - 1) := ⟨_, rfl⟩
          have HQ := Lib.hid hQ.symm
          clear hQ ha' hb' a' b'
          go_wp2_with fail
          refine (has_any _ _ n M (KR.out _ HX2.out).1 ((a : Int) - 1) ((b : Int) - 1)).mono ?_
          rintro e w1 ⟨rfl, y1⟩
          rw [HQ.out]
          have HX3 := Lib.hid (HX2.out.trans y1)
          clear y1
          go_wp2_with fail
          refine (rrhas_any _ rv V n M (KR.out _ HX3.out).2 ((a : Int) - 1) ((b : Int) - 1)).mono ?_
          rintro e w2 ⟨rfl, y2⟩
          rw [HQ.out]
          have HX4 := Lib.hid (HX3.out.trans y2)
          have hqq : (Q != Q) = false := by simp
          clear y2
          go_wp2_with fail
          go_roundw
          case rel => exact ⟨b + 1, by omega, by go_num, HX4.out⟩
          case measure => simp [intOf]; omega
        · have hbl' : ¬ (b : Int) - 1 ≤ (n : Int) := by omega
          go_wp2_with fail
          go_roundw
          case rel => exact ⟨a + 1, by omega, by go_num, HX2.out⟩
          case measure => simp [intOf]; omega
    · have hlt' : ¬ (a : Int) - 1 ≤ (n : Int) := by omega
      go_wp2_with fail
      refine (rlist_any _ _ n M (KR.out _ HX.out).1).mono ?_
      rintro e w1 ⟨v, rfl, o1, y1, -⟩
      have H1 := Lib.hid o1
      have HX1 := Lib.hid (HX.out.trans y1)
      clear o1 y1
      go_wp2_with fail
      refine (rrlist_any _ rv V n M (KR.out _ HX1.out).2).mono ?_
      rintro e w2 ⟨u, rfl, o2, y2, -⟩
      have l1 := (H1.out.ext y2).sl.run_len (P := Try.prog) IP.und 3
      have l2 := o2.sl.run_len (P := Try.prog) IP.und 3
      have HI := Lib.hid ((H1.out.ext y2).sl.run_idx (P := Try.prog) IP.und IP.size .i64)
      have HJ := Lib.hid (o2.sl.run_idx (P := Try.prog) IP.und IP.size .i64)
      have HV : Hid (PairsOwn w2 v (listR n M) ∧ PairsOwn w2 u (listR n M)) := Lib.hid ⟨H1.out.ext y2, o2⟩
      have HX2 := Lib.hid (HX1.out.trans y2)
      have hll : ((listR n M).length : Int) ≤ 5000 := by have := HLL.out; omega
      have hne : (((listR n M).length : Int) != ((listR n M).length : Int)) = false := by simp
      obtain ⟨l, hl⟩ : ∃ l, l = listR n M := ⟨_, rfl⟩
      rw [← hl] at l1 l2 HI HJ HV hll hne
      clear o2 y2 hl
      go_wp2_with fail
      go_loopw [11] (fun s wr => ∃ i : Nat, i ≤ l.length ∧ s = .int .i64 (i : Int) ∧ Ext w2 wr) (fun s _ => l.length - (intOf s).toNat)
      case atStart => exact ⟨0, Nat.zero_le _, rfl, Mod.refl _ _⟩
      case round =>
        obtain ⟨i, hi, rfl, x⟩ := hrel
        have HX5 := Lib.hid x
        by_cases hil : i < l.length
        · have hil' : (i : Int) < (l.length : Int) := by omega
          have i0 := HI.out i hil
          have i1 := HJ.out i hil
          obtain ⟨e0, e1⟩ := pair_cells2 (HV.out.1.ext x) hil
          obtain ⟨e2, e3⟩ := pair_cells2 (HV.out.2.ext x) hil
          obtain ⟨p1, hp1⟩ : ∃ p, p = (prn l i).1 := ⟨_, rfl⟩
          obtain ⟨p2, hp2⟩ : ∃ p, p = (prn l i).2 := ⟨_, rfl⟩
          obtain ⟨A1, hA1⟩ : ∃ A, A = at_ v (i * 2) := ⟨_, rfl⟩
          obtain ⟨A2, hA2⟩ : ∃ A, A = at_ u (i * 2) := ⟨_, rfl⟩
          rw [← hp1, ← hA1] at e0
          rw [← hp2, ← hA1] at e1
          rw [← hp1, ← hA2] at e2
          rw [← hp2, ← hA2] at e3
          rw [← hA1] at i0
          rw [← hA2] at i1
          have KG : Hid (∀ w', Ext wr w' → w'.cell? A1 = some (.int .i64 p1) ∧ w'.cell? ⟨A1.block, A1.off + 1, none⟩ = some (.int .i64 p2) ∧ w'.cell? A2 = some (.int .i64 p1) ∧ w'.cell? ⟨A2.block, A2.off + 1, none⟩ = some (.int .i64 p2)) := Lib.hid fun w' z => ⟨Ext.cell z e0, Ext.cell z e1, Ext.cell z e2, Ext.cell z e3⟩
          have hq := run_neq_pair (P := Try.prog) (T := 32) (e := 3) Try.underlying32 Try.underlying3 (by kernel_rfl) p1 p2 p1 p2
          have hg : ∀ (op : BinOp) (x y : Operand) (w' : World), (eqGuard op 32 x y (.agg #[.int .i64 p1, .int .i64 p2]) (.agg #[.int .i64 p1, .int .i64 p2])).run Try.prog w' = .ok () w' := fun op x y w' => run_eqGuard_agg w' op _ x y _ _ (by kernel_rfl)
          rw [show (!(p1 == p1 && p2 == p2)) = false by simp] at hq
          clear x hp1 hp2 hA1 hA2
          go_upto_region 17 with fail
          clear e0 e1 e2 e3
          refine wp_region_plan [(0, true), (1, true), (2, true), (3, true), (4, true), (5, true), (6, true), (7, true), (8, true)] (fun w' => w'.cell? A1 = some (.int .i64 p1) ∧ w'.cell? ⟨A1.block, A1.off + 1, none⟩ = some (.int .i64 p2) ∧ w'.cell? A2 = some (.int .i64 p1) ∧ w'.cell? ⟨A2.block, A2.off + 1, none⟩ = some (.int .i64 p2)) (by kernel_rfl) (by kernel_rfl) (by kernel_rfl) (fun _ d _ _ _ h => by cases d <;> exact h) (KG.out _ (Mod.drew (Mod.refl _ _))) ?_
          simp only [planL, getO]
          iterate 9 (refine plan_take (v := ?_) (by rfl) (fun wS hS => ?_) ?_; rotate_left; (focus ((try dsimp only at hS); go_simp; (try with_reducible rfl); done)); (try simp only [Act.put, List.setIfInBounds_toArray, List.set_cons_zero, List.set_cons_succ]))
          refine plan_nil ?_
          go_wp2_with fail
          go_roundw
          case rel => exact ⟨i + 1, by omega, by go_num, HX5.out.drew⟩
          case measure => simp [intOf]; omega
        · have hil' : ¬ (i : Int) < (l.length : Int) := by omega
          obtain ⟨Q, hQ⟩ : ∃ Q, Q = hasB n M m 0 := ⟨_, rfl⟩
          have HQ := Lib.hid hQ.symm
          clear x hQ
          go_wp2_with fail
          refine (has_any _ _ n M (KR.out _ (HX2.out.trans HX5.out)).1 m 0).mono ?_
          rintro e w6 ⟨rfl, y6⟩
          rw [HQ.out]
          have HX6 := Lib.hid (HX2.out.trans (HX5.out.trans y6))
          clear y6
          go_wp2_with fail
          refine (rrhas_any _ rv V n M (KR.out _ HX6.out).2 m 0).mono ?_
          rintro e w7 ⟨rfl, y7⟩
          rw [HQ.out]
          go_wp2_with fail
          go_ret
          exact ⟨ret_bool (by simp), HX6.out.trans y7⟩
set_option maxRecDepth 100000 in
set_option maxHeartbeats 1600000 in
theorem relTells_all (w : World) (ve vp : Value) (V : Nat → Vs) (L : Lg) (h : LogIn w ve vp V L) (m : Int) :
    Calls Try.prog 4 #[.agg #[ve, vp], .int .i64 m] w (FPost true w) := by
  have q1 := Sl.cells_eq h.row
  have q2 := Sl.cells_eq h.prow
  have s1 := Sl.run_st (P := Try.prog) h.row
  have s2 := Sl.run_st (P := Try.prog) h.prow
  obtain ⟨w0, hw0⟩ : ∃ w0, w0 = w.alloc (.cells #[ve, vp] 25) := ⟨_, rfl⟩
  obtain ⟨g0, hg0⟩ : ∃ g, g = w.heap.size := ⟨_, rfl⟩
  have x0 : Ext w w0 := by rw [hw0]; exact (Mod.refl _ _).alloc _
  have b0 : LogBox w0 g0 ve vp := ⟨by rw [hw0, hg0]; exact heap_alloc_new _ _⟩
  have HW := Lib.hid (And.intro hw0 (And.intro hg0 x0))
  have KE : Hid (∀ w', Ext w0 w' → LogIn w' ve vp V L ∧ LogBox w' g0 ve vp) := Lib.hid fun w' x => ⟨h.ext (x0.trans x), b0.ext x⟩
  have HI := Lib.hid (h.row.run_idx (P := Try.prog) IEv.und IEv.size .i64)
  have HJ := Lib.hid (h.prow.run_idx (P := Try.prog) IP.und IP.size .i64)
  have l1 := h.row.run_len (P := Try.prog) IEv.und 3
  have l2 := h.prow.run_len (P := Try.prog) IP.und 3
  clear hw0 hg0 x0 b0 h
  go_enter Try.func4, Try.ntmps4
  go_upto_region 1 with fail
  rw [← HW.out.1, ← HW.out.2.1]
  clear s1 s2
  go_wp2_with fail
  refine (first15_any _).mono ?_
  rintro e w1 ⟨rfl, x1⟩
  obtain ⟨c0, c1⟩ := (KE.out _ x1).2.cells
  go_wp2_with fail
  refine (few_any _ _ _ V L (KE.out _ x1).1 60 (by decide)).mono ?_
  rintro r w2 ⟨⟨r, rfl, hf⟩, y2⟩
  have X2 : Ext w0 w2 := x1.trans y2
  clear c0 c1
  obtain ⟨c0, c1⟩ := (KE.out _ X2).2.cells
  cases r with
  | false =>
    clear hf
    go_wp2_with fail
    refine (first15_any _).mono ?_
    rintro e w3 ⟨rfl, x3⟩
    go_wp2_with fail
    go_ret
    exact ⟨rfl, (HW.out.2.2.trans X2).trans x3⟩
  | true =>
    have HS : Hid (L.ev.length ≤ 60 ∧ L.pr.length ≤ 60 ∧ ∀ i, i < L.ev.length → (evn L.ev i).rd.length ≤ 20000 ∧ (evn L.ev i).wr.length ≤ 20000 ∧ (evn L.ev i).fr.length ≤ 20000) := Lib.hid (hf rfl)
    have hle : (L.ev.length : Int) ≤ 60 := by have := HS.out.1; omega
    have hle2 : (L.pr.length : Int) ≤ 60 := by have := HS.out.2.1; omega
    clear hf
    have HSM : Hid (SmL L) := Lib.hid HS.out.2.2
    go_wp2_with fail
    refine (rlog_any _ ve vp V L (KE.out _ X2).1 (by have := HS.out.1; omega)).mono ?_
    rintro en w3 ⟨hv, rfl, lh, y3⟩
    have t1 := Sl.cells_eq lh.row
    have t3 := Sl.run_st (P := Try.prog) lh.row
    have t4 := Sl.run_st (P := Try.prog) lh.prow
    obtain ⟨w4, hw4⟩ : ∃ W, W = w3.alloc (.cells #[hv, vp] 35) := ⟨_, rfl⟩
    obtain ⟨g4, hg4⟩ : ∃ g, g = w3.heap.size := ⟨_, rfl⟩
    have x4 : Ext w3 w4 := by rw [hw4]; exact (Mod.refl _ _).alloc _
    have b4 : RLogBox w4 g4 hv vp := ⟨by rw [hw4, hg4]; exact heap_alloc_new _ _⟩
    have HB4 := Lib.hid (And.intro hw4 hg4)
    have HX4 := Lib.hid (X2.trans (y3.trans x4))
    have KX : Hid (∀ w', Ext w4 w' → LogIn w' ve vp V L ∧ LogIn w' hv vp V L) := Lib.hid fun w' x => ⟨(KE.out _ (HX4.out.trans x)).1, lh.ext (x4.trans x)⟩
    have KF : Hid (∀ w', Ext w4 w' → w'.cell? ⟨g0, 0, none⟩ = some ve ∧ w'.cell? ⟨g0, 1, none⟩ = some vp ∧ w'.cell? ⟨g4, 0, none⟩ = some hv ∧ w'.cell? ⟨g4, 1, none⟩ = some vp) := Lib.hid fun w' x => by
      obtain ⟨a0, a1⟩ := (KE.out _ (HX4.out.trans x)).2.cells
      obtain ⟨a2, a3⟩ := (b4.ext x).cells
      exact ⟨a0, a1, a2, a3⟩
    clear c0 c1 lh hw4 hg4 x4 b4 y3
    go_upto_region 6 with fail
    rw [← HB4.out.1, ← HB4.out.2]
    clear t3 t4
    refine wp_region_plan [(0, false), (1, true), (2, true), (4, true), (6, true), (3, false), (5, false), (7, false), (8, true), (9, true), (10, true), (12, true), (14, true), (11, false), (13, false), (15, false), (16, true), (17, true), (18, true), (20, true), (22, true), (19, false), (21, false), (23, false), (24, true), (25, true)] (fun w' => w'.cell? ⟨g0, 0, none⟩ = some ve ∧ w'.cell? ⟨g0, 1, none⟩ = some vp ∧ w'.cell? ⟨g4, 0, none⟩ = some hv ∧ w'.cell? ⟨g4, 1, none⟩ = some vp) (by kernel_rfl) (by kernel_rfl) (by kernel_rfl) (fun _ d _ _ _ h => by cases d <;> exact h) (KF.out _ (Mod.drew (Mod.refl _ _))) ?_
    simp only [planL, getO]
    refine plan_call (fun K hK => ?_)
    go_simp
    go_at_call 15; refine (first15_any _).mono ?_; rintro en v1 ⟨rfl, u1⟩; have U1 : Ext w4 v1 := Mod.trans (Mod.drew (Mod.refl _ _)) u1
    refine hK.out _ _ (KF.out _ U1) ?_
    clear hK K
    (try simp only [Act.put, List.setIfInBounds_toArray, List.set_cons_zero, List.set_cons_succ])
    iterate 4 (refine plan_take (v := ?_) (by rfl) (fun wS hS => ?_) ?_; rotate_left; (focus ((try dsimp only at hS); go_simp; (try with_reducible rfl); done)); (try simp only [Act.put, List.setIfInBounds_toArray, List.set_cons_zero, List.set_cons_succ]))
    refine plan_call (fun K hK => ?_)
    go_simp
    go_at_call 22; refine (rfrom_any _ ve vp V L (KX.out _ U1).1 (by have := HS.out.1; omega)).mono ?_; rintro en v2 hp; obtain ⟨gp1, rfl, hr1, u2⟩ := rpost_is hp; clear hp; have U2 : Ext w4 v2 := Mod.trans U1 u2; have HR1 := Lib.hid hr1; clear hr1
    refine hK.out _ _ (KF.out _ U2) ?_
    clear hK K
    (try simp only [Act.put, List.setIfInBounds_toArray, List.set_cons_zero, List.set_cons_succ])
    refine plan_call (fun K hK => ?_)
    go_simp
    go_at_call 23; refine (rrfrom_any _ hv vp V L (KX.out _ U2).2 HSM.out (by have := HS.out.1; omega)).mono ?_; rintro en v3 ⟨rv1, R1, rfl, hlp⟩; have x3 := hlp.x; have U3 : Ext w4 v3 := Mod.trans U2 x3; have HQ1 := Lib.hid hlp.is; clear hlp
    refine hK.out _ _ (KF.out _ U3) ?_
    clear hK K
    (try simp only [Act.put, List.setIfInBounds_toArray, List.set_cons_zero, List.set_cons_succ])
    refine plan_call (fun K hK => ?_)
    go_simp
    go_at_call 21; refine (same15_any _ _ _ _ _ _ (HR1.out.ext x3) HQ1.out m).mono ?_; rintro en v4 ⟨rfl, u4⟩; have U4 : Ext w4 v4 := Mod.trans U3 u4
    refine hK.out _ _ (KF.out _ U4) ?_
    clear hK K
    (try simp only [Act.put, List.setIfInBounds_toArray, List.set_cons_zero, List.set_cons_succ])
    iterate 5 (refine plan_take (v := ?_) (by rfl) (fun wS hS => ?_) ?_; rotate_left; (focus ((try dsimp only at hS); go_simp; (try with_reducible rfl); done)); (try simp only [Act.put, List.setIfInBounds_toArray, List.set_cons_zero, List.set_cons_succ]))
    refine plan_call (fun K hK => ?_)
    go_simp
    go_at_call 24; refine (rsync_any _ ve vp V L (KX.out _ U4).1 (by have := HS.out.1; omega)).mono ?_; rintro en v5 hp; obtain ⟨gp2, rfl, hr2, u5⟩ := rpost_is hp; clear hp; have U5 : Ext w4 v5 := Mod.trans U4 u5; have HR2 := Lib.hid hr2; clear hr2
    refine hK.out _ _ (KF.out _ U5) ?_
    clear hK K
    (try simp only [Act.put, List.setIfInBounds_toArray, List.set_cons_zero, List.set_cons_succ])
    refine plan_call (fun K hK => ?_)
    go_simp
    go_at_call 25; refine (rrsyncs_any _ hv vp V L (KX.out _ U5).2 HSM.out (by have := HS.out.1; omega)).mono ?_; rintro en v6 ⟨rv2, R2, rfl, hlp⟩; have x6 := hlp.x; have U6 : Ext w4 v6 := Mod.trans U5 x6; have HQ2 := Lib.hid hlp.is; clear hlp
    refine hK.out _ _ (KF.out _ U6) ?_
    clear hK K
    (try simp only [Act.put, List.setIfInBounds_toArray, List.set_cons_zero, List.set_cons_succ])
    refine plan_call (fun K hK => ?_)
    go_simp
    go_at_call 21; refine (same15_any _ _ _ _ _ _ (HR2.out.ext x6) HQ2.out m).mono ?_; rintro en v7 ⟨rfl, u7⟩; have U7 : Ext w4 v7 := Mod.trans U6 u7
    refine hK.out _ _ (KF.out _ U7) ?_
    clear hK K
    (try simp only [Act.put, List.setIfInBounds_toArray, List.set_cons_zero, List.set_cons_succ])
    iterate 5 (refine plan_take (v := ?_) (by rfl) (fun wS hS => ?_) ?_; rotate_left; (focus ((try dsimp only at hS); go_simp; (try with_reducible rfl); done)); (try simp only [Act.put, List.setIfInBounds_toArray, List.set_cons_zero, List.set_cons_succ]))
    refine plan_call (fun K hK => ?_)
    go_simp
    go_at_call 17; refine (rbefore_any _ ve vp V L (KX.out _ U7).1 (by have := HS.out.1; omega)).mono ?_; rintro en v8 hp; obtain ⟨gp3, rfl, hr3, u8⟩ := rpost_is hp; clear hp; have U8 : Ext w4 v8 := Mod.trans U7 u8; have HR3 := Lib.hid hr3; clear hr3
    refine hK.out _ _ (KF.out _ U8) ?_
    clear hK K
    (try simp only [Act.put, List.setIfInBounds_toArray, List.set_cons_zero, List.set_cons_succ])
    refine plan_call (fun K hK => ?_)
    go_simp
    go_at_call 26; refine (rrbefore_any _ hv vp V L (KX.out _ U8).2 HSM.out (by have := HS.out.1; omega)).mono ?_; rintro en v9 ⟨rv3, R3, rfl, hlp⟩; have x9 := hlp.x; have U9 : Ext w4 v9 := Mod.trans U8 x9; have HQ3 := Lib.hid hlp.is; clear hlp
    refine hK.out _ _ (KF.out _ U9) ?_
    clear hK K
    (try simp only [Act.put, List.setIfInBounds_toArray, List.set_cons_zero, List.set_cons_succ])
    refine plan_call (fun K hK => ?_)
    go_simp
    go_at_call 21; refine (same15_any _ _ _ _ _ _ (HR3.out.ext x9) HQ3.out m).mono ?_; rintro en v10 ⟨rfl, u10⟩; have U10 : Ext w4 v10 := Mod.trans U9 u10
    refine hK.out _ _ (KF.out _ U10) ?_
    clear hK K
    (try simp only [Act.put, List.setIfInBounds_toArray, List.set_cons_zero, List.set_cons_succ])
    iterate 2 (refine plan_take (v := ?_) (by rfl) (fun wS hS => ?_) ?_; rotate_left; (focus ((try dsimp only at hS); go_simp; (try with_reducible rfl); done)); (try simp only [Act.put, List.setIfInBounds_toArray, List.set_cons_zero, List.set_cons_succ]))
    refine plan_nil ?_
    go_wp2_with fail
    go_ret
    exact ⟨rfl, HW.out.2.2.trans (HX4.out.trans U10)⟩
end Go.Proofs.Ytkibdabbjbcboaa
