/-
  The contract of renref14.Atomic. No condition.
-/
import Derived.Test.YthmkcgiiakinmaaJRvPast
import Derived.Test.YthmkcgiiakinmaaJRvPl
import Derived.Test.YthmkcgiiakinmaaJModAto
namespace Go.Proofs.Ythmkcgiiakinmaa
open Go.Ren Go.RowKit
set_option linter.unusedVariables false
set_option maxRecDepth 100000 in
set_option maxHeartbeats 4000000 in
theorem ratomic_any (w : World) (ve vp : Value) (V : Nat → Vs) (L : Lg) (h : LogIn w ve vp V L) (hsm : SmL L) (hl : L.ev.length ≤ 64) (ov : Value) (l : List Int) (hov : IntsAt w ov l) :
    Calls Try.prog 46 #[.agg #[ve, vp], ov] w (NumPost (atoI L l) w) := by
  have HLE := Lib.hid hl
  have HSM := Lib.hid hsm
  have hle : (L.ev.length : Int) ≤ 64 := by omega
  have HOV := Lib.hid hov
  clear hl hov hsm
  have q1 := Sl.cells_eq h.row
  have q2 := Sl.cells_eq h.prow
  have s1 := Sl.run_st (P := Try.prog) h.row
  have s2 := Sl.run_st (P := Try.prog) h.prow
  obtain ⟨w0, hw0⟩ : ∃ w0, w0 = w.alloc (.cells #[ve, vp] 30) := ⟨_, rfl⟩
  obtain ⟨g0, hg0⟩ : ∃ g, g = w.heap.size := ⟨_, rfl⟩
  have x0 : Ext w w0 := by rw [hw0]; exact (Mod.refl _ _).alloc _
  have b0 : RLogBox w0 g0 ve vp := ⟨by rw [hw0, hg0]; exact heap_alloc_new _ _⟩
  have HW := Lib.hid (And.intro hw0 (And.intro hg0 x0))
  have KE : Hid (∀ w', Ext w0 w' → LogIn w' ve vp V L ∧ RLogBox w' g0 ve vp) := Lib.hid fun w' x => ⟨h.ext (x0.trans x), b0.ext x⟩
  have HI := Lib.hid (h.row.run_idx (P := Try.prog) IRe.und IRe.size .i64)
  have HJ := Lib.hid (h.prow.run_idx (P := Try.prog) IP.und IP.size .i64)
  have l1 := h.row.run_len (P := Try.prog) IRe.und 3
  have l2 := h.prow.run_len (P := Try.prog) IP.und 3
  obtain ⟨c0, c1⟩ := b0.cells
  clear hw0 hg0 x0 b0 h
  go_enter Try.func46, Try.ntmps46
  go_upto_region 1 with fail
  rw [← HW.out.1, ← HW.out.2.1]
  clear s1 s2
  go_wp2_with fail
  refine (rordered_any _ ve vp V L (KE.out _ (Mod.refl _ _)).1 HSM.out HLE.out ov l (HOV.out.ext HW.out.2.2)).mono ?_
  rintro e w1 ⟨rfl, y1⟩
  cases hob : ordB L l with
  | false =>
    have HC : Hid (atoI L l = 0) := Lib.hid (by unfold atoI; rw [hob]; rfl)
    rw [show ordI L l = 0 by unfold ordI; rw [hob]; rfl]
    clear hob c0 c1
    go_wp2_with fail
    go_ret
    exact ⟨by rw [HC.out]; rfl, HW.out.2.2.trans y1⟩
  | true =>
    have HC : Hid (atoI L l = fstN (atoB L l) L.ev.length) := Lib.hid (by unfold atoI; rw [if_pos hob])
    have HM := Lib.hid (ordB_parts hob).1
    have HPL := Lib.hid (ordB_parts hob).2
    rw [show ordI L l = -1 by unfold ordI; rw [if_pos hob]]
    have HY1 := Lib.hid y1
    clear hob y1 c0 c1
    obtain ⟨c0, c1⟩ := (KE.out _ HY1.out).2.cells
    go_wp2_with fail
    refine (rplaces_any _ L.ev.length HLE.out ov l (HOV.out.ext (HW.out.2.2.trans HY1.out))).mono ?_
    rintro e w3 ⟨av, rfl, hpo, y3⟩
    have hoo : Own w3 3 1 av L.ev.length ((List.range L.ev.length).map fun k => iv (posI l k)) := by
      rcases hpo with ⟨-, h1⟩ | ⟨h1, -⟩
      · exact h1
      · rw [HPL.out] at h1; cases h1
    have HO := Lib.hid hoo
    have HX3 := Lib.hid (HY1.out.trans y3)
    clear hpo hoo y3 c0 c1
    have KF5 : Hid (∀ w', Ext w3 w' → w'.cell? ⟨g0, 0, none⟩ = some ve ∧ w'.cell? ⟨g0, 1, none⟩ = some vp) := Lib.hid fun w' x => (KE.out _ (HX3.out.trans x)).2.cells
    go_upto_region 4 with fail
    refine wp_region_plan [(0, true), (2, true), (1, false), (3, false), (4, true), (5, true)] (fun w' => w'.cell? ⟨g0, 0, none⟩ = some ve ∧ w'.cell? ⟨g0, 1, none⟩ = some vp) (by kernel_rfl) (by kernel_rfl) (by kernel_rfl) (fun _ d _ _ _ h => by cases d <;> exact h) (KF5.out _ (Mod.drew (Mod.refl _ _))) ?_
    simp only [planL, getO]
    iterate 2 (refine plan_take (v := ?_) (by rfl) (fun wS hS => ?_) ?_; rotate_left; (focus ((try dsimp only at hS); go_simp; (try with_reducible rfl); done)); (try simp only [Act.put, List.setIfInBounds_toArray, List.set_cons_zero, List.set_cons_succ]))
    refine plan_call (fun K hK => ?_)
    go_simp
    go_at_call 87; refine (rrsyncs_any _ ve vp V L (KE.out _ (HX3.out.trans (Mod.drew (Mod.refl _ _)))).1 HSM.out HLE.out).mono ?_; rintro e w4 ⟨rs, Rs, rfl, hs⟩; have E4 : Ext w3 w4 := Mod.trans (Mod.drew (Mod.refl _ _)) hs.x; have hsi := hs.is; rw [relN_yes HM.out] at hsi; have HRS := Lib.hid hsi; clear hs hsi
    refine hK.out _ _ (KF5.out _ E4) ?_
    clear hK K
    (try simp only [Act.put, List.setIfInBounds_toArray, List.set_cons_zero, List.set_cons_succ])
    refine plan_call (fun K hK => ?_)
    go_simp
    go_at_call 60; refine (rrbefore_any _ ve vp V L (KE.out _ (HX3.out.trans E4)).1 HSM.out HLE.out).mono ?_; rintro e w5 ⟨rh, Rh, rfl, hs⟩; have y5 := hs.x; have E5 : Ext w3 w5 := Mod.trans E4 y5; have hsi := hs.is; rw [relN_yes HM.out] at hsi; have HRH := Lib.hid hsi; clear hs hsi
    refine hK.out _ _ (KF5.out _ E5) ?_
    clear hK K
    (try simp only [Act.put, List.setIfInBounds_toArray, List.set_cons_zero, List.set_cons_succ])
    iterate 2 (refine plan_take (v := ?_) (by rfl) (fun wS hS => ?_) ?_; rotate_left; (focus ((try dsimp only at hS); go_simp; (try with_reducible rfl); done)); (try simp only [Act.put, List.setIfInBounds_toArray, List.set_cons_zero, List.set_cons_succ]))
    refine plan_nil ?_
    have HX5 := Lib.hid (HX3.out.trans E5)
    have HAV : Hid (Own w5 3 1 av L.ev.length ((List.range L.ev.length).map fun k => iv (posI l k))) := Lib.hid (HO.out.ext E5)
    have HRS5 := Lib.hid (HRS.out.ext y5)
    clear y5 E4 E5
    go_wp2_with fail
    go_loopw [8] (fun s wr => ∃ r : Nat, r ≤ L.ev.length ∧ s = .int .i64 (r : Int) ∧ (∀ j, j < r → atoB L l j = false) ∧ Ext w5 wr) (fun s _ => L.ev.length - (intOf s).toNat)
    case atStart => exact ⟨0, Nat.zero_le _, rfl, fun j hj => absurd hj (Nat.not_lt_zero _), Mod.refl _ _⟩
    case round =>
      obtain ⟨r, hr, rfl, hn, xx⟩ := hrel
      have HN := Lib.hid hn
      have HX := Lib.hid xx
      obtain ⟨c0, c1⟩ := (KE.out _ (HX5.out.trans xx)).2.cells
      clear hn
      by_cases hlt : r < L.ev.length
      · have hlt' : (r : Int) < (L.ev.length : Int) := by omega
        have i0 := HI.out r hlt
        have hea := (KE.out _ (HX5.out.trans xx)).1.ev r hlt
        obtain ⟨e, he⟩ : ∃ e, e = evn L.ev r := ⟨_, rfl⟩
        obtain ⟨v, hv⟩ : ∃ v, v = V r := ⟨_, rfl⟩
        obtain ⟨A, hA⟩ : ∃ A, A = at_ ve (r * 10) := ⟨_, rfl⟩
        rw [← hA] at i0
        rw [← he, ← hv] at hea
        have l5 := hea.fr.sl.run_len (P := Try.prog) II.und 3
        have J5 := Lib.hid (hea.fr.sl.run_idx (P := Try.prog) II.und II.size .i64)
        have HE := Lib.hid (And.intro he hv)
        have K9 : Hid (∀ w', Ext w5 w' → (w'.cell? ⟨g0, 0, none⟩ = some ve ∧ w'.cell? ⟨A.block, A.off + 9, none⟩ = some v.f) ∧ EvAt w' e v) := Lib.hid fun w' z => by
          have h1 := KE.out _ (HX5.out.trans z)
          have h2 := (h1.1.cells hlt).2.2.2.2.2.2.2.2.2
          rw [← hA, ← hv] at h2
          exact ⟨⟨h1.2.cells.1, h2⟩, by rw [he, hv]; exact h1.1.ev r hlt⟩
        have h8 : (e.fr.length : Int) ≤ 8 := by have := may_small HM.out hlt; rw [← he] at this; omega
        clear he hv hA hea xx
        go_wp2_with fail
        clear c0 c1
        go_loopw [9] (fun s wq => ∃ i : Nat, i ≤ e.fr.length ∧ s = .int .i64 (i : Int) ∧ (∀ j, j < i → atoQ L l r j = false) ∧ Ext w5 wq) (fun s _ => e.fr.length - (intOf s).toNat)
        case atStart => exact ⟨0, Nat.zero_le _, rfl, fun j hj => absurd hj (Nat.not_lt_zero _), HX.out⟩
        case round =>
          obtain ⟨i, hi, rfl, hn, xq⟩ := hrel
          have HN2 := Lib.hid hn
          have HXQ := Lib.hid xq
          obtain ⟨⟨c0, c9⟩, hee⟩ := K9.out _ xq
          clear hn
          by_cases hil : i < e.fr.length
          · have hil' : (i : Int) < (e.fr.length : Int) := by omega
            have j0 := J5.out i hil
            simp only [Nat.mul_one] at j0
            have cF := IntsAt.cell (l := e.fr) (v := v.f) hee.fr hil
            obtain ⟨z, hz⟩ : ∃ x, x = e.fr[i] := ⟨_, rfl⟩
            rw [← hz] at cF
            have hfx : frn L r i = z := by rw [hz]; exact frn_eq HE.out.1 hil
            have hzr := frn_may HM.out hlt (i := i) (by rw [← HE.out.1]; exact hil)
            rw [hfx] at hzr
            have HFX := Lib.hid hfx
            clear hee hz hfx xq
            rcases hzr with rfl | ⟨a, rfl, har⟩
            · have HNN := Lib.hid (lt_step HN2.out (show atoQ L l r i = false by unfold atoQ; rw [HFX.out]; rfl))
              have hpos : (0 : Int) < (L.ev.length : Int) := by omega
              go_wp2_with fail
              clear c0 c9 cF
              go_loopw [11] (fun s wv => s = .int .i64 0 ∧ Ext w5 wv) (fun _ _ => 0)
              case atStart => exact ⟨rfl, HXQ.out⟩
              case round =>
                obtain ⟨rfl, xv⟩ := hrel
                have HXV := Lib.hid xv
                obtain ⟨⟨c0, c9⟩, -⟩ := K9.out _ xv
                clear xv
                go_wp2_with fail
                go_roundw
                case rel => exact ⟨i + 1, by omega, by go_num, HNN.out, HXV.out⟩
                case measure => simp [intOf]; omega
            · have hal : a < L.ev.length := by omega
              have hna : (0 : Int) ≤ (a : Int) := by omega
              have HQA : Hid (atoQ L l r i = anyB (atoP L l r a) L.ev.length) := Lib.hid (by unfold atoQ; rw [HFX.out, Int.toNat_natCast]; simp)
              go_wp2_with fail
              clear c0 c9 cF
              go_loopw [11] (fun s wv => ∃ q : Nat, q ≤ L.ev.length ∧ s = .int .i64 (q : Int) ∧ (∀ j, j < q → atoP L l r a j = false) ∧ Ext w5 wv) (fun s _ => L.ev.length - (intOf s).toNat)
              case atStart => exact ⟨0, Nat.zero_le _, rfl, fun j hj => absurd hj (Nat.not_lt_zero _), HXQ.out⟩
              case round =>
                obtain ⟨q, hq, rfl, hn, xv⟩ := hrel
                have HN3 := Lib.hid hn
                have HXV := Lib.hid xv
                obtain ⟨c0, c1⟩ := (KE.out _ (HX5.out.trans xv)).2.cells
                clear hn xv
                by_cases hltq : q < L.ev.length
                · have hltq' : (q : Int) < (L.ev.length : Int) := by omega
                  obtain ⟨PB, hPB⟩ : ∃ z, z = atoP L l r a q := ⟨_, rfl⟩
                  have HPB := Lib.hid hPB.symm
                  have HHIT : Hid (atoP L l r a q = true → (r : Int) = atoI L l) := Lib.hid fun hh => by
                    rw [HC.out, fstN_hit hlt HN.out (anyB_iff.2 ⟨i, by rw [← HE.out.1]; exact hil, by rw [HQA.out]; exact anyB_iff.2 ⟨q, hltq, hh⟩⟩)]
                  clear hPB
                  go_wp2_with fail
                  refine (rbetween_any _ ve vp V L (KE.out _ (HX5.out.trans HXV.out)).1 l rs rh av Rs Rh (HRS5.out.ext HXV.out) (HRH.out.ext HXV.out) (HAV.out.ext HXV.out) a q r hal hltq hlt).mono ?_
                  rintro en w9 ⟨rfl, y9⟩
                  rw [HPB.out]
                  have X9 := Lib.hid (HXV.out.trans y9)
                  clear y9 c0 c1
                  cases PB with
                  | false =>
                    have HNN := Lib.hid (lt_step HN3.out HPB.out)
                    go_wp2_with fail
                    go_roundw
                    case rel => exact ⟨q + 1, by omega, by go_num, HNN.out, X9.out⟩
                    case measure => simp [intOf]; omega
                  | true =>
                    have HYY : Hid ((r : Int) = atoI L l) := Lib.hid (HHIT.out HPB.out)
                    go_wp2_with fail
                    go_ret
                    exact ⟨by rw [← HYY.out]; rfl, HW.out.2.2.trans (HX5.out.trans X9.out)⟩
                · have hltq' : ¬ (q : Int) < (L.ev.length : Int) := by omega
                  have HNN := Lib.hid (lt_step HN2.out (show atoQ L l r i = false by rw [HQA.out]; exact anyB_none.2 fun j hj => HN3.out j (by omega)))
                  go_wp2_with fail
                  go_roundw
                  case rel => exact ⟨i + 1, by omega, by go_num, HNN.out, HXV.out⟩
                  case measure => simp [intOf]; omega
          · have hil' : ¬ (i : Int) < (e.fr.length : Int) := by omega
            have HNN := Lib.hid (lt_step HN.out (show atoB L l r = false from anyB_none.2 fun j hj => HN2.out j (by rw [← HE.out.1] at hj; omega)))
            clear xq hee
            go_wp2_with fail
            go_roundw
            case rel => exact ⟨r + 1, by omega, by go_num, HNN.out, HXQ.out⟩
            case measure => simp [intOf]; omega
      · have hlt' : ¬ (r : Int) < (L.ev.length : Int) := by omega
        have HF : Hid (atoI L l = -1) := Lib.hid (by rw [HC.out]; exact fstN_none fun j hj => HN.out j (by omega))
        clear xx
        go_wp2_with fail
        go_ret
        exact ⟨by rw [HF.out]; rfl, HW.out.2.2.trans (HX5.out.trans HX.out)⟩
end Go.Proofs.Ythmkcgiiakinmaa
