/-
  RaceHeads: the walk of renlaw17.RaceHeads. No condition.
-/
import Derived.Test.YthmkcgiiakinmaaRaceFst
import Derived.Test.YthmkcgiiakinmaaPairEq
namespace Go.Ren
theorem filter_at {l : List (Int × Int)} {q : Int × Int → Bool} {i : Nat} (hi : i < l.length) (h : q (prn l i) = true) : ((l.take i).filter q).length < (l.filter q).length ∧ prn (l.filter q) ((l.take i).filter q).length = prn l i := by
  have e : l.filter q = ((l.take i).filter q ++ [prn l i]) ++ (l.drop (i + 1)).filter q := by
    rw [← take_filter_yes hi h, ← List.filter_append, List.take_append_drop]
  rw [e]
  refine ⟨by simp only [List.length_append, List.length_singleton]; omega, ?_⟩
  unfold prn
  simp [List.getD_eq_getElem?_getD]
end Go.Ren
namespace Go.Proofs.Ythmkcgiiakinmaa
open Go.Ren Go.RowKit
set_option linter.unusedVariables false

set_option maxRecDepth 100000 in
set_option maxHeartbeats 1600000 in
theorem raceHeads_all (w : World) (ve vp : Value) (V : Nat → Vs) (L : Lg) (h : LogIn w ve vp V L) (n : Int) (hn : I64 n) :
    Calls Try.prog 5 #[.agg #[ve, vp], .int .i64 n] w (FPost true w) := by
  have HNI := Lib.hid hn
  clear hn
  have q1 := Sl.cells_eq h.row
  have q2 := Sl.cells_eq h.prow
  have s1 := Sl.run_st (P := Try.prog) h.row
  have s2 := Sl.run_st (P := Try.prog) h.prow
  obtain ⟨w0, hw0⟩ : ∃ w0, w0 = w.alloc (.cells #[ve, vp] 25) := ⟨_, rfl⟩
  obtain ⟨g0, hg0⟩ : ∃ g, g = w.heap.size := ⟨_, rfl⟩
  have x0 : Ext w w0 := by rw [hw0]; exact (Mod.refl _ _).alloc _
  have b0 : LogBox w0 g0 ve vp := ⟨by rw [hw0, hg0]; exact heap_alloc_new _ _⟩
  have HW := Lib.hid (And.intro hw0 (And.intro hg0 x0))
  have KE : Hid (∀ w', Ext w0 w' → LogIn w' ve vp V L ∧ LogBox w' g0 ve vp) := Lib.hid fun w' x => ⟨h.ext (x0.trans x), b0.ext x⟩
  have HI := Lib.hid (h.row.run_idx (P := Try.prog) IEv.und IEv.size .i64)
  have HJ := Lib.hid (h.prow.run_idx (P := Try.prog) IP.und IP.size .i64)
  have l1 := h.row.run_len (P := Try.prog) IEv.und 3
  have l2 := h.prow.run_len (P := Try.prog) IP.und 3
  clear hw0 hg0 x0 b0 h
  go_enter Try.func5, Try.ntmps5
  go_upto_region 1 with fail
  rw [← HW.out.1, ← HW.out.2.1]
  clear s1 s2
  go_wp2_with fail
  refine (first17_any _).mono ?_
  rintro e w1 ⟨rfl, x1⟩
  obtain ⟨c0, c1⟩ := (KE.out _ x1).2.cells
  go_wp2_with fail
  refine (few_any _ _ _ V L (KE.out _ x1).1 40 (by decide)).mono ?_
  rintro r w2 ⟨⟨r, rfl, hf⟩, y2⟩
  have X2 : Ext w0 w2 := x1.trans y2
  clear c0 c1
  obtain ⟨c0, c1⟩ := (KE.out _ X2).2.cells
  cases r with
  | false =>
    clear hf
    go_wp2_with fail
    refine (first17_any _).mono ?_
    rintro e w3 ⟨rfl, x3⟩
    go_wp2_with fail
    go_ret
    exact ⟨rfl, (HW.out.2.2.trans X2).trans x3⟩
  | true =>
    have HS : Hid (L.ev.length ≤ 40 ∧ L.pr.length ≤ 40 ∧ ∀ i, i < L.ev.length → (evn L.ev i).rd.length ≤ 20000 ∧ (evn L.ev i).wr.length ≤ 20000 ∧ (evn L.ev i).fr.length ≤ 20000) := Lib.hid (hf rfl)
    have hle : (L.ev.length : Int) ≤ 40 := by have := HS.out.1; omega
    have hle2 : (L.pr.length : Int) ≤ 40 := by have := HS.out.2.1; omega
    clear hf
    go_wp2_with fail
    refine (may_any _ ve vp V L (KE.out _ X2).1).mono ?_
    rintro e w3 ⟨rfl, y3⟩
    have X3 : Ext w0 w3 := X2.trans y3
    clear c0 c1
    obtain ⟨c0, c1⟩ := (KE.out _ X3).2.cells
    cases hm : mayL L with
    | false =>
      clear hm
      go_wp2_with fail
      refine (first17_any _).mono ?_
      rintro e w4 ⟨rfl, x4⟩
      go_wp2_with fail
      go_ret
      exact ⟨rfl, (HW.out.2.2.trans X3).trans x4⟩
    | true =>
      have HM := Lib.hid hm
      clear hm
      have KF : Hid (∀ w', Ext w3 w' → w'.cell? ⟨g0, 0, none⟩ = some ve ∧ w'.cell? ⟨g0, 1, none⟩ = some vp) := Lib.hid fun w' x => (KE.out _ (X3.trans x)).2.cells
      have HSM : Hid (Small L) := Lib.hid ⟨by have := HS.out.1; omega, by have := HS.out.2.1; omega, HS.out.2.2⟩
      clear c0 c1
      go_upto_region 5 with fail
      refine wp_region_plan [(0, true), (2, true), (3, true), (1, false), (4, false), (5, false), (6, true), (7, true)] (fun w' => w'.cell? ⟨g0, 0, none⟩ = some ve ∧ w'.cell? ⟨g0, 1, none⟩ = some vp) (by kernel_rfl) (by kernel_rfl) (by kernel_rfl) (fun _ d _ _ _ h => by cases d <;> exact h) (KF.out _ (Mod.drew (Mod.refl _ _))) ?_
      simp only [planL, getO]
      iterate 3 (refine plan_take (v := ?_) (by rfl) (fun wS hS => ?_) ?_; rotate_left; (focus ((try dsimp only at hS); go_simp; (try with_reducible rfl); done)); (try simp only [Act.put, List.setIfInBounds_toArray, List.set_cons_zero, List.set_cons_succ]))
      refine plan_call (fun K hK => ?_)
      go_simp
      go_at_call 21; refine (conflicts_any _ ve vp V L (KE.out _ (X3.trans (Mod.drew (Mod.refl _ _)))).1 (by have := HS.out.1; omega)).mono ?_; rintro e w4 ⟨cv, rfl, oc, y4, -⟩; have E4 : Ext w3 w4 := Mod.trans (Mod.drew (Mod.refl _ _)) y4; have HC := Lib.hid oc; clear oc
      refine hK.out _ _ (KF.out _ E4) ?_
      clear hK K
      (try simp only [Act.put, List.setIfInBounds_toArray, List.set_cons_zero, List.set_cons_succ])
      refine plan_call (fun K hK => ?_)
      go_simp
      go_at_call 29; refine (head_any _ ve vp V L (KE.out _ (X3.trans E4)).1 n HNI.out HSM.out).mono ?_; rintro r w5 ⟨hv, pv, V5, rfl, o5, y5, -⟩; have l5 := head_in (KE.out _ (X3.trans E4)).1 o5; have E5 : Ext w3 w5 := Mod.trans E4 y5; have H5 := Lib.hid l5; clear o5 l5
      refine hK.out _ _ (KF.out _ E5) ?_
      clear hK K
      (try simp only [Act.put, List.setIfInBounds_toArray, List.set_cons_zero, List.set_cons_succ])
      refine plan_call (fun K hK => ?_)
      go_simp
      go_at_call 21; refine (conflicts_any _ hv pv V5 (headL L n) H5.out (by have := HS.out.1; have := headN_le L n; rw [head_evlen]; omega)).mono ?_; rintro e w6 ⟨sv, rfl, os, y6, -⟩; have E6 : Ext w3 w6 := Mod.trans E5 y6; have HSV := Lib.hid os; clear os
      refine hK.out _ _ (KF.out _ E6) ?_
      clear hK K
      (try simp only [Act.put, List.setIfInBounds_toArray, List.set_cons_zero, List.set_cons_succ])
      iterate 2 (refine plan_take (v := ?_) (by rfl) (fun wS hS => ?_) ?_; rotate_left; (focus ((try dsimp only at hS); go_simp; (try with_reducible rfl); done)); (try simp only [Act.put, List.setIfInBounds_toArray, List.set_cons_zero, List.set_cons_succ]))
      refine plan_nil ?_
      obtain ⟨C, hC⟩ : ∃ C, C = cfL L := ⟨_, rfl⟩
      obtain ⟨S, hS⟩ : ∃ S, S = cfL (headL L n) := ⟨_, rfl⟩
      have hCl : (C.length : Int) ≤ 4096 := by have := cfL_len (L := L) (by have := HS.out.1; omega); rw [hC]; omega
      have HCS : Hid (S = C.filter fun p => decide (p.2 < n)) := Lib.hid (by rw [hS, hC, head_cfL HM.out])
      have HO : Hid (PairsOwn w6 cv C ∧ PairsOwn w6 sv S) := Lib.hid ⟨by rw [hC]; exact (HC.out.ext y5).ext y6, by rw [hS]; exact HSV.out⟩
      have lc := HO.out.1.sl.run_len (P := Try.prog) IP.und 3
      have ls := HO.out.2.sl.run_len (P := Try.prog) IP.und 3
      have HIC := Lib.hid (HO.out.1.sl.run_idx (P := Try.prog) IP.und IP.size .i64)
      have HIS := Lib.hid (HO.out.2.sl.run_idx (P := Try.prog) IP.und IP.size .i64)
      have HX6 := Lib.hid (X3.trans E6)
      have HCE := Lib.hid hC
      clear hC hS
      go_wp2_with fail
      go_loopw [7, 8] (fun s7 s8 wr => ∃ i : Nat, i ≤ C.length ∧ s8 = .int .i64 (i : Int) ∧ (∃ k : Nat, s7 = .int .i64 (k : Int) ∧ k = ((C.take i).filter fun p => decide (p.2 < n)).length ∧ k ≤ i) ∧ Ext w6 wr) (fun _ s _ => C.length - (intOf s).toNat)
      case atStart => exact ⟨0, Nat.zero_le _, rfl, ⟨0, rfl, rfl, Nat.le_refl _⟩, Mod.refl _ _⟩
      case round =>
        obtain ⟨i, hi, rfl, ⟨k, rfl, hk, hki⟩, x⟩ := hrel
        have HX := Lib.hid x
        by_cases hlt : i < C.length
        · have hlt' : (i : Int) < (C.length : Int) := by omega
          have i0 := HIC.out i hlt
          obtain ⟨e0, e1⟩ := pair_cells (HO.out.1.ext x) hlt
          obtain ⟨p1, hp1⟩ : ∃ p, p = (prn C i).1 := ⟨_, rfl⟩
          obtain ⟨p2, hp2⟩ : ∃ p, p = (prn C i).2 := ⟨_, rfl⟩
          obtain ⟨A1, hA1⟩ : ∃ A, A = at_ cv (i * 2) := ⟨_, rfl⟩
          rw [← hp1, ← hA1] at e0
          rw [← hp2, ← hA1] at e1
          rw [← hA1] at i0
          by_cases hpn : p2 < n
          · obtain ⟨f1, f2⟩ := filter_at (l := C) (q := fun p => decide (p.2 < n)) hlt (by rw [← hp2]; simpa using hpn)
            rw [← hk, ← HCS.out] at f1 f2
            have hkn : ¬ (S.length : Int) ≤ (k : Int) := by omega
            have i1 := HIS.out k f1
            obtain ⟨e2, e3⟩ := pair_cells (HO.out.2.ext x) f1
            obtain ⟨A2, hA2⟩ : ∃ A, A = at_ sv (k * 2) := ⟨_, rfl⟩
            rw [f2, ← hp1, ← hA2] at e2
            rw [f2, ← hp2, ← hA2] at e3
            rw [← hA2] at i1
            have KG : Hid (∀ w', Ext wr w' → w'.cell? A1 = some (.int .i64 p1) ∧ w'.cell? ⟨A1.block, A1.off + 1, none⟩ = some (.int .i64 p2) ∧ w'.cell? A2 = some (.int .i64 p1) ∧ w'.cell? ⟨A2.block, A2.off + 1, none⟩ = some (.int .i64 p2)) := Lib.hid fun w' z => ⟨Ext.cell z e0, Ext.cell z e1, Ext.cell z e2, Ext.cell z e3⟩
            have hq := run_neq_pair (P := Try.prog) (T := 48) (e := 3) Try.underlying48 Try.underlying3 (by kernel_rfl) p1 p2 p1 p2
            have hg : ∀ (op : BinOp) (x y : Operand) (w' : World), (eqGuard op 48 x y (.agg #[.int .i64 p1, .int .i64 p2]) (.agg #[.int .i64 p1, .int .i64 p2])).run Try.prog w' = .ok () w' := fun op x y w' => run_eqGuard_agg w' op _ x y _ _ (by kernel_rfl)
            rw [show (!(p1 == p1 && p2 == p2)) = false by simp] at hq
            have HK : Hid (k + 1 = ((C.take (i + 1)).filter fun p => decide (p.2 < n)).length) := Lib.hid (by rw [take_filter_yes hlt (by rw [← hp2]; simpa using hpn), List.length_append, ← hk]; rfl)
            clear hk x hp1 hp2 hA1 hA2 f1 f2
            go_upto_region 11 with fail
            clear e0 e1 e2 e3
            refine wp_region_plan [(0, true), (1, true), (2, true), (3, true), (4, true), (5, true), (6, true), (7, true), (8, true), (9, true), (10, true), (11, true), (12, true), (13, true), (14, true)] (fun w' => w'.cell? A1 = some (.int .i64 p1) ∧ w'.cell? ⟨A1.block, A1.off + 1, none⟩ = some (.int .i64 p2) ∧ w'.cell? A2 = some (.int .i64 p1) ∧ w'.cell? ⟨A2.block, A2.off + 1, none⟩ = some (.int .i64 p2)) (by kernel_rfl) (by kernel_rfl) (by kernel_rfl) (fun _ d _ _ _ h => by cases d <;> exact h) (KG.out _ (Mod.drew (Mod.refl _ _))) ?_
            simp only [planL, getO]
            iterate 15 (refine plan_take (v := ?_) (by rfl) (fun wS hS => ?_) ?_; rotate_left; (focus ((try dsimp only at hS); go_simp; (try with_reducible rfl); done)); (try simp only [Act.put, List.setIfInBounds_toArray, List.set_cons_zero, List.set_cons_succ]))
            refine plan_nil ?_
            go_wp2_with fail
            go_roundw
            case rel => exact ⟨i + 1, by omega, by go_num, ⟨k + 1, by go_num, HK.out, by omega⟩, HX.out.drew⟩
            case measure => simp [intOf]; omega
          · have HK : Hid (k = ((C.take (i + 1)).filter fun p => decide (p.2 < n)).length) := Lib.hid (by rw [take_filter_no hlt (by rw [← hp2]; simpa using hpn), ← hk])
            clear hk x hp1 hp2 hA1
            go_wp2_with fail
            go_roundw
            case rel => exact ⟨i + 1, by omega, by go_num, ⟨k, rfl, HK.out, by omega⟩, HX.out⟩
            case measure => simp [intOf]; omega
        · have hlt' : ¬ (i : Int) < (C.length : Int) := by omega
          have hks : k = S.length := by rw [hk, HCS.out, List.take_of_length_le (by omega)]
          obtain ⟨c0, c1⟩ := (KE.out _ (HX6.out.trans x)).2.cells
          clear hk x
          subst hks
          go_wp2_with fail
          refine (rfirst_any _ ve vp V L (KE.out _ (HX6.out.trans HX.out)).1 (by have := HS.out.1; omega)).mono ?_
          rintro e w7 ⟨rfl, y7⟩
          have X7 := Lib.hid (HX6.out.trans (HX.out.trans y7))
          have hfl := frL_law (l := C) (by rw [HCE.out]; exact cfL_pos)
          have hup : ∀ p ∈ C, p.2 < 64 := fun p hp => by rw [HCE.out] at hp; obtain ⟨_, a, b, rfl, _, h2, _⟩ := mem_cfL.1 hp; have := HS.out.1; dsimp only; omega
          rw [← HCE.out]
          obtain ⟨f, hf⟩ : ∃ f, f = frL C := ⟨_, rfl⟩
          rw [← hf] at hfl ⊢
          clear hf y7 c0 c1
          go_wp2_with fail
          refine (first17_any _).mono ?_
          rintro e w8 ⟨rfl, y8⟩
          have X8 := Lib.hid (X7.out.trans y8)
          clear y8
          rcases hfl with ⟨rfl, rfl⟩ | ⟨g1, g2, ⟨p, gp, g3⟩, g4⟩
          · go_wp2_with fail
            go_ret
            exact ⟨rfl, HW.out.2.2.trans X8.out⟩
          · have hcn : 0 < C.length := List.length_pos_iff.2 g1
            have hcn2 : (0 : Int) < (C.length : Int) := by omega
            have hf64 : f ≤ 64 := by have := hup p gp; have := g4 p gp; omega
            have g2' : ¬ f < 0 := by omega
            obtain ⟨m1, hm1⟩ : ∃ m, m = (cfL (headL L f)).length := ⟨_, rfl⟩
            obtain ⟨m2, hm2⟩ : ∃ m, m = (cfL (headL L (f - 1))).length := ⟨_, rfl⟩
            have h1 : 0 < m1 := by
              rw [hm1, head_cfL HM.out, ← HCE.out]
              exact List.length_pos_iff.2 (List.ne_nil_of_mem (List.mem_filter.2 ⟨gp, by simpa using g3⟩))
            have h2 : m2 = 0 := by
              rw [hm2, head_cfL HM.out, ← HCE.out, List.length_eq_zero_iff, List.filter_eq_nil_iff]
              intro q hq
              simpa using g4 q hq
            subst h2
            have h1' : (0 : Int) < (m1 : Int) := by omega
            have HM1 := Lib.hid hm1.symm
            have HM2 := Lib.hid hm2.symm
            have HF := Lib.hid (And.intro g2 hf64)
            obtain ⟨c0, c1⟩ := (KE.out _ X8.out).2.cells
            clear hup g1 gp g3 g4 hm1 hm2
            go_wp2_with fail
            refine (head_any _ ve vp V L (KE.out _ X8.out).1 f (by have := HF.out; unfold I64; omega) HSM.out).mono ?_
            rintro r w9 ⟨hv2, pv2, V9, rfl, o9, y9, -⟩
            have l9 := head_in (KE.out _ X8.out).1 o9
            have H9 := Lib.hid l9
            have X9 := Lib.hid (X8.out.trans y9)
            clear o9 l9 y9 c0 c1
            go_wp2_with fail
            refine (conflicts_any _ hv2 pv2 V9 (headL L f) H9.out (by have := HS.out.1; have := headN_le L f; rw [head_evlen]; omega)).mono ?_
            rintro e wa ⟨cv2, rfl, oa, ya, -⟩
            have la := oa.sl.run_len (P := Try.prog) IP.und 3
            rw [HM1.out] at la
            have Xa := Lib.hid (X9.out.trans ya)
            obtain ⟨c0, c1⟩ := (KE.out _ Xa.out).2.cells
            clear oa ya
            go_wp2_with fail
            refine (head_any _ ve vp V L (KE.out _ Xa.out).1 (f - 1) (by have := HF.out; unfold I64; omega) HSM.out).mono ?_
            rintro r wb ⟨hv3, pv3, Vb, rfl, ob, yb, -⟩
            have lb := head_in (KE.out _ Xa.out).1 ob
            have Hb := Lib.hid lb
            have Xb := Lib.hid (Xa.out.trans yb)
            clear ob lb yb c0 c1
            go_wp2_with fail
            refine (conflicts_any _ hv3 pv3 Vb (headL L (f - 1)) Hb.out (by have := HS.out.1; have := headN_le L (f - 1); rw [head_evlen]; omega)).mono ?_
            rintro e wc ⟨cv3, rfl, oc, yc, -⟩
            have lcc := oc.sl.run_len (P := Try.prog) IP.und 3
            rw [HM2.out] at lcc
            have Xc := Lib.hid (Xb.out.trans yc)
            clear oc yc
            go_wp2_with fail
            go_ret
            exact ⟨rfl, HW.out.2.2.trans Xc.out⟩
end Go.Proofs.Ythmkcgiiakinmaa
