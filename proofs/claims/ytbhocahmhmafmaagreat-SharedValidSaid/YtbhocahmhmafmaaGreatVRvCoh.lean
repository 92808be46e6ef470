/-
  The contract of renref14.Atomic. No condition. The contract of renref14.Coherent. No condition. The contract of renref14.TearFree. No condition. The contract of renref14.Valid. No condition.
-/
import Derived.Test.YtbhocahmhmafmaaGreatVRvPast
import Derived.Test.YtbhocahmhmafmaaGreatVRvPl
import Derived.Test.YtbhocahmhmafmaaGreatVModAto
import Derived.Test.YtbhocahmhmafmaaGreatVRvHid
namespace Go.Proofs.YtbhocahmhmafmaaGreat
open Go.Ren Go.RowKit
set_option linter.unusedVariables false
set_option maxRecDepth 100000 in
set_option maxHeartbeats 4000000 in
theorem ratomic_any (w : World) (ve vp : Value) (V : Nat → Vs) (L : Lg) (h : LogIn w ve vp V L) (hsm : SmL L) (hl : L.ev.length ≤ 64) (ov : Value) (l : List Int) (hov : IntsAt w ov l) :
 Calls Tryz.prog 84 #[.agg #[ve, vp], ov] w (NumPost (atoI L l) w) := by
 have HLE := Lib.hid hl
 have HSM := Lib.hid hsm
 have hle : (L.ev.length : Int) ≤ 64 := by omega
 have HOV := Lib.hid hov
 clear hl hov hsm
 have q1 := Sl.cells_eq h.row
 have q2 := Sl.cells_eq h.prow
 have s1 := Sl.run_st (P := Tryz.prog) h.row
 have s2 := Sl.run_st (P := Tryz.prog) h.prow
 obtain ⟨w0, hw0⟩ : ∃ w0, w0 = w.alloc (.cells #[ve, vp] 57) := ⟨_, rfl⟩
 obtain ⟨g0, hg0⟩ : ∃ g, g = w.heap.size := ⟨_, rfl⟩
 have x0 : Ext w w0 := by rw [hw0]; exact (Mod.refl _ _).alloc _
 have b0 : RLogBox w0 g0 ve vp := ⟨by rw [hw0, hg0]; exact heap_alloc_new _ _⟩
 have HW := Lib.hid (And.intro hw0 (And.intro hg0 x0))
 have KE : Hid (∀ w', Ext w0 w' → LogIn w' ve vp V L ∧ RLogBox w' g0 ve vp) := Lib.hid fun w' x => ⟨h.ext (x0.trans x), b0.ext x⟩
 have HI := Lib.hid (h.row.run_idx (P := Tryz.prog) IRe.und IRe.size .i64)
 have HJ := Lib.hid (h.prow.run_idx (P := Tryz.prog) IP.und IP.size .i64)
 have l1 := h.row.run_len (P := Tryz.prog) IRe.und 3
 have l2 := h.prow.run_len (P := Tryz.prog) IP.und 3
 obtain ⟨c0, c1⟩ := b0.cells
 clear hw0 hg0 x0 b0 h
 go_enter Tryz.func84, Tryz.ntmps84
 go_upto_region 1 with fail
 rw [← HW.out.1, ← HW.out.2.1]
 clear s1 s2
 go_wp2_with fail
 refine (rordered_any _ ve vp V L (KE.out _ (Mod.refl _ _)).1 HSM.out HLE.out ov l (HOV.out.ext HW.out.2.2)).mono ?_
 rintro e w1 ⟨rfl, y1⟩
 cases hob : ordB L l with
 | false =>
  have HC : Hid (atoI L l = 0) := Lib.hid (by unfold atoI; rw [hob]; rfl)
  rw [show ordI L l = 0 by unfold ordI; rw [hob]; rfl]
  clear hob c0 c1
  go_wp2_with fail
  go_ret
  exact ⟨by rw [HC.out]; rfl, HW.out.2.2.trans y1⟩
 | true =>
  have HC : Hid (atoI L l = fstN (atoB L l) L.ev.length) := Lib.hid (by unfold atoI; rw [if_pos hob])
  have HM := Lib.hid (ordB_parts hob).1
  have HPL := Lib.hid (ordB_parts hob).2
  rw [show ordI L l = -1 by unfold ordI; rw [if_pos hob]]
  have HY1 := Lib.hid y1
  clear hob y1 c0 c1
  obtain ⟨c0, c1⟩ := (KE.out _ HY1.out).2.cells
  go_wp2_with fail
  refine (rplaces_any _ L.ev.length HLE.out ov l (HOV.out.ext (HW.out.2.2.trans HY1.out))).mono ?_
  rintro e w3 ⟨av, rfl, hpo, y3⟩
  have hoo : Own w3 3 1 av L.ev.length ((List.range L.ev.length).map fun k => iv (posI l k)) := by
   rcases hpo with ⟨-, h1⟩ | ⟨h1, -⟩
   · exact h1
   · rw [HPL.out] at h1; cases h1
  have HO := Lib.hid hoo
  have HX3 := Lib.hid (HY1.out.trans y3)
  clear hpo hoo y3 c0 c1
  have KF5 : Hid (∀ w', Ext w3 w' → w'.cell? ⟨g0, 0, none⟩ = some ve ∧ w'.cell? ⟨g0, 1, none⟩ = some vp) := Lib.hid fun w' x => (KE.out _ (HX3.out.trans x)).2.cells
  go_upto_region 4 with fail
  refine wp_region_plan [(0, true), (2, true), (1, false), (3, false), (4, true), (5, true)] (fun w' => w'.cell? ⟨g0, 0, none⟩ = some ve ∧ w'.cell? ⟨g0, 1, none⟩ = some vp) (by kernel_rfl) (by kernel_rfl) (by kernel_rfl) (fun _ d _ _ _ h => by cases d <;> exact h) (KF5.out _ (Mod.drew (Mod.refl _ _))) ?_
  simp only [planL, getO]
  iterate 2 (refine plan_take (v := ?_) (by rfl) (fun wS hS => ?_) ?_; rotate_left; (focus ((try dsimp only at hS); go_simp; (try with_reducible rfl); done)); (try simp only [Act.put, List.setIfInBounds_toArray, List.set_cons_zero, List.set_cons_succ]))
  refine plan_call (fun K hK => ?_)
  go_simp
  go_at_call 145; refine (rrsyncs_any _ ve vp V L (KE.out _ (HX3.out.trans (Mod.drew (Mod.refl _ _)))).1 HSM.out HLE.out).mono ?_; rintro e w4 ⟨rs, Rs, rfl, hs⟩; have E4 : Ext w3 w4 := Mod.trans (Mod.drew (Mod.refl _ _)) hs.x; have hsi := hs.is; rw [relN_yes HM.out] at hsi; have HRS := Lib.hid hsi; clear hs hsi
  refine hK.out _ _ (KF5.out _ E4) ?_
  clear hK K
  (try simp only [Act.put, List.setIfInBounds_toArray, List.set_cons_zero, List.set_cons_succ])
  refine plan_call (fun K hK => ?_)
  go_simp
  go_at_call 141; refine (rrbefore_any _ ve vp V L (KE.out _ (HX3.out.trans E4)).1 HSM.out HLE.out).mono ?_; rintro e w5 ⟨rh, Rh, rfl, hs⟩; have y5 := hs.x; have E5 : Ext w3 w5 := Mod.trans E4 y5; have hsi := hs.is; rw [relN_yes HM.out] at hsi; have HRH := Lib.hid hsi; clear hs hsi
  refine hK.out _ _ (KF5.out _ E5) ?_
  clear hK K
  (try simp only [Act.put, List.setIfInBounds_toArray, List.set_cons_zero, List.set_cons_succ])
  iterate 2 (refine plan_take (v := ?_) (by rfl) (fun wS hS => ?_) ?_; rotate_left; (focus ((try dsimp only at hS); go_simp; (try with_reducible rfl); done)); (try simp only [Act.put, List.setIfInBounds_toArray, List.set_cons_zero, List.set_cons_succ]))
  refine plan_nil ?_
  have HX5 := Lib.hid (HX3.out.trans E5)
  have HAV : Hid (Own w5 3 1 av L.ev.length ((List.range L.ev.length).map fun k => iv (posI l k))) := Lib.hid (HO.out.ext E5)
  have HRS5 := Lib.hid (HRS.out.ext y5)
  clear y5 E4 E5
  go_wp2_with fail
  go_loopw [8] (fun s wr => ∃ r : Nat, r ≤ L.ev.length ∧ s = .int .i64 (r : Int) ∧ (∀ j, j < r → atoB L l j = false) ∧ Ext w5 wr) (fun s _ => L.ev.length - (intOf s).toNat)
  case atStart => exact ⟨0, Nat.zero_le _, rfl, fun j hj => absurd hj (Nat.not_lt_zero _), Mod.refl _ _⟩
  case round =>
   obtain ⟨r, hr, rfl, hn, xx⟩ := hrel
   have HN := Lib.hid hn
   have HX := Lib.hid xx
   obtain ⟨c0, c1⟩ := (KE.out _ (HX5.out.trans xx)).2.cells
   clear hn
   by_cases hlt : r < L.ev.length
   · have hlt' : (r : Int) < (L.ev.length : Int) := by omega
     have i0 := HI.out r hlt
     have hea := (KE.out _ (HX5.out.trans xx)).1.ev r hlt
     obtain ⟨e, he⟩ : ∃ e, e = evn L.ev r := ⟨_, rfl⟩
     obtain ⟨v, hv⟩ : ∃ v, v = V r := ⟨_, rfl⟩
     obtain ⟨A, hA⟩ : ∃ A, A = at_ ve (r * 10) := ⟨_, rfl⟩
     rw [← hA] at i0
     rw [← he, ← hv] at hea
     have l5 := hea.fr.sl.run_len (P := Tryz.prog) II.und 3
     have J5 := Lib.hid (hea.fr.sl.run_idx (P := Tryz.prog) II.und II.size .i64)
     have HE := Lib.hid (And.intro he hv)
     have K9 : Hid (∀ w', Ext w5 w' → (w'.cell? ⟨g0, 0, none⟩ = some ve ∧ w'.cell? ⟨A.block, A.off + 9, none⟩ = some v.f) ∧ EvAt w' e v) := Lib.hid fun w' z => by
      have h1 := KE.out _ (HX5.out.trans z)
      have h2 := (h1.1.cells hlt).2.2.2.2.2.2.2.2.2
      rw [← hA, ← hv] at h2
      exact ⟨⟨h1.2.cells.1, h2⟩, by rw [he, hv]; exact h1.1.ev r hlt⟩
     have h8 : (e.fr.length : Int) ≤ 8 := by have := may_small HM.out hlt; rw [← he] at this; omega
     clear he hv hA hea xx
     go_wp2_with fail
     clear c0 c1
     go_loopw [9] (fun s wq => ∃ i : Nat, i ≤ e.fr.length ∧ s = .int .i64 (i : Int) ∧ (∀ j, j < i → atoQ L l r j = false) ∧ Ext w5 wq) (fun s _ => e.fr.length - (intOf s).toNat)
     case atStart => exact ⟨0, Nat.zero_le _, rfl, fun j hj => absurd hj (Nat.not_lt_zero _), HX.out⟩
     case round =>
      obtain ⟨i, hi, rfl, hn, xq⟩ := hrel
      have HN2 := Lib.hid hn
      have HXQ := Lib.hid xq
      obtain ⟨⟨c0, c9⟩, hee⟩ := K9.out _ xq
      clear hn
      by_cases hil : i < e.fr.length
      · have hil' : (i : Int) < (e.fr.length : Int) := by omega
        have j0 := J5.out i hil
        simp only [Nat.mul_one] at j0
        have cF := IntsAt.cell (l := e.fr) (v := v.f) hee.fr hil
        obtain ⟨z, hz⟩ : ∃ x, x = e.fr[i] := ⟨_, rfl⟩
        rw [← hz] at cF
        have hfx : frn L r i = z := by rw [hz]; exact frn_eq HE.out.1 hil
        have hzr := frn_may HM.out hlt (i := i) (by rw [← HE.out.1]; exact hil)
        rw [hfx] at hzr
        have HFX := Lib.hid hfx
        clear hee hz hfx xq
        rcases hzr with rfl | ⟨a, rfl, har⟩
        · have HNN := Lib.hid (lt_step HN2.out (show atoQ L l r i = false by unfold atoQ; rw [HFX.out]; rfl))
          have hpos : (0 : Int) < (L.ev.length : Int) := by omega
          go_wp2_with fail
          clear c0 c9 cF
          go_loopw [11] (fun s wv => s = .int .i64 0 ∧ Ext w5 wv) (fun _ _ => 0)
          case atStart => exact ⟨rfl, HXQ.out⟩
          case round =>
           obtain ⟨rfl, xv⟩ := hrel
           have HXV := Lib.hid xv
           obtain ⟨⟨c0, c9⟩, -⟩ := K9.out _ xv
           clear xv
           go_wp2_with fail
           go_roundw
           case rel => exact ⟨i + 1, by omega, by go_num, HNN.out, HXV.out⟩
           case measure => simp [intOf]; omega
        · have hal : a < L.ev.length := by omega
          have hna : (0 : Int) ≤ (a : Int) := by omega
          have HQA : Hid (atoQ L l r i = anyB (atoP L l r a) L.ev.length) := Lib.hid (by unfold atoQ; rw [HFX.out, Int.toNat_natCast]; simp)
          go_wp2_with fail
          clear c0 c9 cF
          go_loopw [11] (fun s wv => ∃ q : Nat, q ≤ L.ev.length ∧ s = .int .i64 (q : Int) ∧ (∀ j, j < q → atoP L l r a j = false) ∧ Ext w5 wv) (fun s _ => L.ev.length - (intOf s).toNat)
          case atStart => exact ⟨0, Nat.zero_le _, rfl, fun j hj => absurd hj (Nat.not_lt_zero _), HXQ.out⟩
          case round =>
           obtain ⟨q, hq, rfl, hn, xv⟩ := hrel
           have HN3 := Lib.hid hn
           have HXV := Lib.hid xv
           obtain ⟨c0, c1⟩ := (KE.out _ (HX5.out.trans xv)).2.cells
           clear hn xv
           by_cases hltq : q < L.ev.length
           · have hltq' : (q : Int) < (L.ev.length : Int) := by omega
             obtain ⟨PB, hPB⟩ : ∃ z, z = atoP L l r a q := ⟨_, rfl⟩
             have HPB := Lib.hid hPB.symm
             have HHIT : Hid (atoP L l r a q = true → (r : Int) = atoI L l) := Lib.hid fun hh => by
              rw [HC.out, fstN_hit hlt HN.out (anyB_iff.2 ⟨i, by rw [← HE.out.1]; exact hil, by rw [HQA.out]; exact anyB_iff.2 ⟨q, hltq, hh⟩⟩)]
             clear hPB
             go_wp2_with fail
             refine (rbetween_any _ ve vp V L (KE.out _ (HX5.out.trans HXV.out)).1 l rs rh av Rs Rh (HRS5.out.ext HXV.out) (HRH.out.ext HXV.out) (HAV.out.ext HXV.out) a q r hal hltq hlt).mono ?_
             rintro en w9 ⟨rfl, y9⟩
             rw [HPB.out]
             have X9 := Lib.hid (HXV.out.trans y9)
             clear y9 c0 c1
             cases PB with
             | false =>
              have HNN := Lib.hid (lt_step HN3.out HPB.out)
              go_wp2_with fail
              go_roundw
              case rel => exact ⟨q + 1, by omega, by go_num, HNN.out, X9.out⟩
              case measure => simp [intOf]; omega
             | true =>
              have HYY : Hid ((r : Int) = atoI L l) := Lib.hid (HHIT.out HPB.out)
              go_wp2_with fail
              go_ret
              exact ⟨by rw [← HYY.out]; rfl, HW.out.2.2.trans (HX5.out.trans X9.out)⟩
           · have hltq' : ¬ (q : Int) < (L.ev.length : Int) := by omega
             have HNN := Lib.hid (lt_step HN2.out (show atoQ L l r i = false by rw [HQA.out]; exact anyB_none.2 fun j hj => HN3.out j (by omega)))
             go_wp2_with fail
             go_roundw
             case rel => exact ⟨i + 1, by omega, by go_num, HNN.out, HXV.out⟩
             case measure => simp [intOf]; omega
      · have hil' : ¬ (i : Int) < (e.fr.length : Int) := by omega
        have HNN := Lib.hid (lt_step HN.out (show atoB L l r = false from anyB_none.2 fun j hj => HN2.out j (by rw [← HE.out.1] at hj; omega)))
        clear xq hee
        go_wp2_with fail
        go_roundw
        case rel => exact ⟨r + 1, by omega, by go_num, HNN.out, HXQ.out⟩
        case measure => simp [intOf]; omega
   · have hlt' : ¬ (r : Int) < (L.ev.length : Int) := by omega
     have HF : Hid (atoI L l = -1) := Lib.hid (by rw [HC.out]; exact fstN_none fun j hj => HN.out j (by omega))
     clear xx
     go_wp2_with fail
     go_ret
     exact ⟨by rw [HF.out]; rfl, HW.out.2.2.trans (HX5.out.trans HX.out)⟩
end Go.Proofs.YtbhocahmhmafmaaGreat
namespace Go.Proofs.YtbhocahmhmafmaaGreat
open Go.Ren Go.RowKit
set_option linter.unusedVariables false
set_option maxRecDepth 100000 in
set_option maxHeartbeats 1600000 in
theorem rcoherent_any (w : World) (ve vp : Value) (V : Nat → Vs) (L : Lg) (h : LogIn w ve vp V L) (hsm : SmL L) (hl : L.ev.length ≤ 64) :
 Calls Tryz.prog 81 #[.agg #[ve, vp]] w (NumPost (cohI L) w) := by
 have HLE := Lib.hid hl
 have HSM := Lib.hid hsm
 have hle : (L.ev.length : Int) ≤ 64 := by omega
 clear hl hsm
 have q1 := Sl.cells_eq h.row
 have q2 := Sl.cells_eq h.prow
 have s1 := Sl.run_st (P := Tryz.prog) h.row
 have s2 := Sl.run_st (P := Tryz.prog) h.prow
 obtain ⟨w0, hw0⟩ : ∃ w0, w0 = w.alloc (.cells #[ve, vp] 57) := ⟨_, rfl⟩
 obtain ⟨g0, hg0⟩ : ∃ g, g = w.heap.size := ⟨_, rfl⟩
 have x0 : Ext w w0 := by rw [hw0]; exact (Mod.refl _ _).alloc _
 have b0 : RLogBox w0 g0 ve vp := ⟨by rw [hw0, hg0]; exact heap_alloc_new _ _⟩
 have HW := Lib.hid (And.intro hw0 (And.intro hg0 x0))
 have KE : Hid (∀ w', Ext w0 w' → LogIn w' ve vp V L ∧ RLogBox w' g0 ve vp) := Lib.hid fun w' x => ⟨h.ext (x0.trans x), b0.ext x⟩
 have HI := Lib.hid (h.row.run_idx (P := Tryz.prog) IRe.und IRe.size .i64)
 have HJ := Lib.hid (h.prow.run_idx (P := Tryz.prog) IP.und IP.size .i64)
 have l1 := h.row.run_len (P := Tryz.prog) IRe.und 3
 have l2 := h.prow.run_len (P := Tryz.prog) IP.und 3
 obtain ⟨c0, c1⟩ := b0.cells
 clear hw0 hg0 x0 b0 h
 go_enter Tryz.func81, Tryz.ntmps81
 go_upto_region 1 with fail
 rw [← HW.out.1, ← HW.out.2.1]
 clear s1 s2
 go_wp2_with fail
 refine (rmay_any _ ve vp V L (KE.out _ (Mod.refl _ _)).1 HSM.out).mono ?_
 rintro e w1 ⟨rfl, y1⟩
 clear c0 c1
 cases hm : mayL L with
 | false =>
  have HC : Hid (cohI L = 0) := Lib.hid (by unfold cohI; rw [hm]; rfl)
  clear hm
  go_wp2_with fail
  go_ret
  exact ⟨by rw [HC.out]; rfl, HW.out.2.2.trans y1⟩
 | true =>
  have HM := Lib.hid hm
  have HC : Hid (cohI L = fstN (cohB L) L.ev.length) := Lib.hid (by unfold cohI; rw [if_pos hm])
  clear hm
  obtain ⟨c0, c1⟩ := (KE.out _ y1).2.cells
  go_wp2_with fail
  refine (rrbefore_any _ ve vp V L (KE.out _ y1).1 HSM.out HLE.out).mono ?_
  rintro e w2 ⟨rv, R, rfl, hlp⟩
  have hrr := hlp.is
  rw [relN_yes HM.out] at hrr
  have HRR := Lib.hid hrr
  have HX2 := Lib.hid (y1.trans hlp.x)
  clear hlp hrr c0 c1
  go_wp2_with fail
  go_loopw [4] (fun s wr => ∃ r : Nat, r ≤ L.ev.length ∧ s = .int .i64 (r : Int) ∧ (∀ j, j < r → cohB L j = false) ∧ Ext w2 wr) (fun s _ => L.ev.length - (intOf s).toNat)
  case atStart => exact ⟨0, Nat.zero_le _, rfl, fun j hj => absurd hj (Nat.not_lt_zero _), Mod.refl _ _⟩
  case round =>
   obtain ⟨r, hr, rfl, hn, xx⟩ := hrel
   have HN := Lib.hid hn
   have HX := Lib.hid xx
   obtain ⟨l0, l1'⟩ := (KE.out _ (HX2.out.trans xx)).2.cells
   clear hn xx
   by_cases hlt : r < L.ev.length
   · have hlt' : (r : Int) < (L.ev.length : Int) := by omega
     have i0 := HI.out r hlt
     have hlg := (KE.out _ (HX2.out.trans HX.out)).1
     obtain ⟨c0, c1, c2, c3, c4, c5, c6, c7, c8, c9⟩ := hlg.cells hlt
     have hea := hlg.ev r hlt
     obtain ⟨e, he⟩ : ∃ e, e = evn L.ev r := ⟨_, rfl⟩
     obtain ⟨v, hv⟩ : ∃ v, v = V r := ⟨_, rfl⟩
     obtain ⟨A, hA⟩ : ∃ A, A = at_ ve (r * 10) := ⟨_, rfl⟩
     rw [← hA] at i0 c0 c1 c2 c3 c4 c5 c6 c7 c8 c9
     rw [← he] at c0 c1 c2 c3 c4 c5 c6 hea
     rw [← hv] at c7 c8 c9 hea
     obtain ⟨k1, k2, k3, t1, t2, t3⟩ := ev_facts hea
     obtain ⟨w5, hw5⟩ : ∃ w5, w5 = wr.alloc (.cells (evArr e v) 116) := ⟨_, rfl⟩
     obtain ⟨g5, hg5⟩ : ∃ g, g = wr.heap.size := ⟨_, rfl⟩
     have x5 : Ext wr w5 := by rw [hw5]; exact (Mod.refl _ _).alloc _
     have b5 : REvBox w5 g5 e v := ⟨by rw [hw5, hg5]; exact heap_alloc_new _ _⟩
     have HEA := Lib.hid (hea.ext x5)
     have HE := Lib.hid (And.intro he hv)
     have HW5 := Lib.hid (And.intro hw5 (And.intro hg5 (And.intro x5 b5)))
     have l5 := hea.fr.sl.run_len (P := Tryz.prog) II.und 3
     have J5 := Lib.hid (hea.fr.sl.run_idx (P := Tryz.prog) II.und II.size .i64)
     obtain ⟨d0, d1, d2, d3, d4, d5, d6, d7, d8, d9⟩ := b5.cells
     clear hlg hea he hv hA hw5 hg5 x5 b5
     go_upto_region 8 with fail
     rw [← HW5.out.1, ← HW5.out.2.1]
     clear c0 c1 c2 c3 c4 c5 c6 c7 c8 c9 t1 t2 t3 i0
     obtain ⟨ha0, ha1⟩ : 0 ≤ e.at_ ∧ e.at_ ≤ 256 := by rw [HE.out.1]; exact may_range HM.out hlt
     have h8 : (e.fr.length : Int) ≤ 8 := by have := may_small HM.out hlt; rw [← HE.out.1] at this; omega
     clear l0 l1'
     go_wp2_with fail
     clear d0 d1 d2 d3 d4 d5 d6 d7 d8 d9
     go_loopw [6] (fun s wq => ∃ i : Nat, i ≤ e.fr.length ∧ s = .int .i64 (i : Int) ∧ (∀ j, j < i → cohP L r j = false) ∧ Ext w5 wq) (fun s _ => e.fr.length - (intOf s).toNat)
     case atStart => exact ⟨0, Nat.zero_le _, rfl, fun j hj => absurd hj (Nat.not_lt_zero _), Mod.refl _ _⟩
     case round =>
      obtain ⟨i, hi, rfl, hn, xq⟩ := hrel
      have HN2 := Lib.hid hn
      have HXQ := Lib.hid xq
      have HXW := Lib.hid (HX.out.trans (HW5.out.2.2.1.trans xq))
      clear hn
      obtain ⟨d0, d1, d2, d3, d4, d5, d6, d7, d8, d9⟩ := (HW5.out.2.2.2.ext xq).cells
      by_cases hil : i < e.fr.length
      · have hil' : (i : Int) < (e.fr.length : Int) := by omega
        have j0 := J5.out i hil
        simp only [Nat.mul_one] at j0
        have cF := IntsAt.cell (l := e.fr) (v := v.f) ((HEA.out.ext xq).fr) hil
        obtain ⟨x, hx⟩ : ∃ x, x = e.fr[i] := ⟨_, rfl⟩
        rw [← hx] at cF
        have hfx : frn L r i = x := by rw [hx]; exact frn_eq HE.out.1 hil
        have hzr := frn_may HM.out hlt (i := i) (by rw [← HE.out.1]; exact hil)
        rw [hfx] at hzr
        obtain ⟨Q2, hQ2⟩ : ∃ Q, Q = hidB L r x (e.at_ + i) := ⟨_, rfl⟩
        have HP : Hid (cohP L r i = (hasB L.ev.length (hbB L) (r : Int) x || Q2)) := Lib.hid (by unfold cohP; rw [hfx, hQ2, HE.out.1])
        have HQ2 := Lib.hid hQ2.symm
        have HNO : Hid (cohP L r i = false → ∀ j, j < i + 1 → cohP L r j = false) := Lib.hid fun h => lt_step HN2.out h
        have HYES : Hid (cohP L r i = true → (r : Int) = cohI L) := Lib.hid fun h => by
         rw [HC.out, fstN_hit hlt HN.out (anyB_iff.2 ⟨i, by rw [← HE.out.1]; exact hil, h⟩)]
        obtain ⟨c0, c1⟩ := (KE.out _ (HX2.out.trans HXW.out)).2.cells
        clear hx hfx hQ2 xq
        rcases hzr with rfl | ⟨a, rfl, har⟩
        · have HP2 : Hid (cohP L r i = Q2) := Lib.hid (by rw [HP.out]; simp [hasB])
          go_wp2_with fail
          refine (rhidden_any _ ve vp V L (KE.out _ (HX2.out.trans HXW.out)).1 _ _ (HRR.out.ext HXW.out) r hlt (-1) (e.at_ + i) (by omega) (by unfold I64; omega)).mono ?_
          rintro en w7 ⟨rfl, y7⟩
          rw [HQ2.out]
          have X7 := Lib.hid (HXW.out.trans y7)
          have HXQ7 := Lib.hid (HXQ.out.trans y7)
          clear y7 c0 c1 d0 d1 d2 d3 d4 d5 d6 d7 d8 d9 cF
          cases Q2 with
          | true =>
           have HYY := Lib.hid (HYES.out HP2.out)
           go_wp2_with fail
           go_ret
           exact ⟨by rw [← HYY.out]; rfl, HW.out.2.2.trans (HX2.out.trans X7.out)⟩
          | false =>
           have HNN := Lib.hid (HNO.out HP2.out)
           go_wp2_with fail
           go_roundw
           case rel => exact ⟨i + 1, by omega, by go_num, HNN.out, HXQ7.out⟩
           case measure => simp [intOf]; omega
        · have hal : a < L.ev.length := by omega
          have hna : (0 : Int) ≤ (a : Int) := by omega
          obtain ⟨f1, f2, -⟩ := (HRR.out.ext HXW.out).facts hlt hal
          obtain ⟨i1, i2⟩ := HRR.out.idx hlt hal
          obtain ⟨Q1, hQ1⟩ : ∃ Q, Q = hbB L r a := ⟨_, rfl⟩
          rw [← hQ1] at f2
          have HP2 : Hid (cohP L r i = (Q1 || Q2)) := Lib.hid (by rw [HP.out, hasB_nat hlt hal, hQ1])
          clear hQ1
          cases Q1 with
          | true =>
           have HYY := Lib.hid (HYES.out (by rw [HP2.out]; rfl))
           go_wp2_with fail
           go_ret
           exact ⟨by rw [← HYY.out]; rfl, HW.out.2.2.trans (HX2.out.trans HXW.out)⟩
          | false =>
           go_wp2_with fail
           refine (rhidden_any _ ve vp V L (KE.out _ (HX2.out.trans HXW.out)).1 _ _ (HRR.out.ext HXW.out) r hlt (a : Int) (e.at_ + i) (by omega) (by unfold I64; omega)).mono ?_
           rintro en w7 ⟨rfl, y7⟩
           rw [HQ2.out]
           have X7 := Lib.hid (HXW.out.trans y7)
           have HXQ7 := Lib.hid (HXQ.out.trans y7)
           clear y7 c0 c1 d0 d1 d2 d3 d4 d5 d6 d7 d8 d9 cF f1 f2
           cases Q2 with
           | true =>
            have HYY := Lib.hid (HYES.out (by rw [HP2.out]; rfl))
            go_wp2_with fail
            go_ret
            exact ⟨by rw [← HYY.out]; rfl, HW.out.2.2.trans (HX2.out.trans X7.out)⟩
           | false =>
            have HNN := Lib.hid (HNO.out (by rw [HP2.out]; rfl))
            go_wp2_with fail
            go_roundw
            case rel => exact ⟨i + 1, by omega, by go_num, HNN.out, HXQ7.out⟩
            case measure => simp [intOf]; omega
      · have hil' : ¬ (i : Int) < (e.fr.length : Int) := by omega
        have HNN : Hid (∀ j, j < r + 1 → cohB L j = false) := Lib.hid (lt_step HN.out (anyB_none.2 fun i' hi' => HN2.out i' (by rw [← HE.out.1] at hi'; omega)))
        clear xq
        go_wp2_with fail
        go_roundw
        case rel => exact ⟨r + 1, by omega, by go_num, HNN.out, HXW.out⟩
        case measure => simp [intOf]; omega
   · have hlt' : ¬ (r : Int) < (L.ev.length : Int) := by omega
     have HF : Hid (cohI L = -1) := Lib.hid (by rw [HC.out]; exact fstN_none fun j hj => HN.out j (by omega))
     go_wp2_with fail
     go_ret
     exact ⟨by rw [HF.out]; rfl, HW.out.2.2.trans (HX2.out.trans HX.out)⟩
end Go.Proofs.YtbhocahmhmafmaaGreat
namespace Go.Proofs.YtbhocahmhmafmaaGreat
open Go.Ren Go.RowKit
set_option linter.unusedVariables false
theorem evEq_turn (a b : Ev) : evEq a b = evEq b a := by
 unfold evEq; rw [decide_eq_decide]; constructor <;> (rintro ⟨h1, h2, h3, h4, h5⟩; exact ⟨h2, h1, h3.symm, h4.symm, h5.symm⟩)
theorem tear_nt {L : Lg} {r : Nat} (h : (evn L.ev r).nt = false) : tearB L r = false :=
 anyB_none.2 fun i _ => anyB_none.2 fun j _ => by unfold qP; rw [h]; rfl
set_option maxRecDepth 100000 in
set_option maxHeartbeats 1600000 in
theorem rtearfree_any (w : World) (ve vp : Value) (V : Nat → Vs) (L : Lg) (h : LogIn w ve vp V L) (hsm : SmL L) (hl : L.ev.length ≤ 64) :
 Calls Tryz.prog 82 #[.agg #[ve, vp]] w (NumPost (tearI L) w) := by
 have HLE := Lib.hid hl
 have HSM := Lib.hid hsm
 have hle : (L.ev.length : Int) ≤ 64 := by omega
 clear hl hsm
 have q1 := Sl.cells_eq h.row
 have q2 := Sl.cells_eq h.prow
 have s1 := Sl.run_st (P := Tryz.prog) h.row
 have s2 := Sl.run_st (P := Tryz.prog) h.prow
 obtain ⟨w0, hw0⟩ : ∃ w0, w0 = w.alloc (.cells #[ve, vp] 57) := ⟨_, rfl⟩
 obtain ⟨g0, hg0⟩ : ∃ g, g = w.heap.size := ⟨_, rfl⟩
 have x0 : Ext w w0 := by rw [hw0]; exact (Mod.refl _ _).alloc _
 have b0 : RLogBox w0 g0 ve vp := ⟨by rw [hw0, hg0]; exact heap_alloc_new _ _⟩
 have HW := Lib.hid (And.intro hw0 (And.intro hg0 x0))
 have KE : Hid (∀ w', Ext w0 w' → LogIn w' ve vp V L ∧ RLogBox w' g0 ve vp) := Lib.hid fun w' x => ⟨h.ext (x0.trans x), b0.ext x⟩
 have HI := Lib.hid (h.row.run_idx (P := Tryz.prog) IRe.und IRe.size .i64)
 have HJ := Lib.hid (h.prow.run_idx (P := Tryz.prog) IP.und IP.size .i64)
 have l1 := h.row.run_len (P := Tryz.prog) IRe.und 3
 have l2 := h.prow.run_len (P := Tryz.prog) IP.und 3
 obtain ⟨c0, c1⟩ := b0.cells
 clear hw0 hg0 x0 b0 h
 go_enter Tryz.func82, Tryz.ntmps82
 go_upto_region 1 with fail
 rw [← HW.out.1, ← HW.out.2.1]
 clear s1 s2
 go_wp2_with fail
 refine (rmay_any _ ve vp V L (KE.out _ (Mod.refl _ _)).1 HSM.out).mono ?_
 rintro e w1 ⟨rfl, y1⟩
 clear c0 c1
 cases hm : mayL L with
 | false =>
  have HC : Hid (tearI L = 0) := Lib.hid (by unfold tearI; rw [hm]; rfl)
  clear hm
  go_wp2_with fail
  go_ret
  exact ⟨by rw [HC.out]; rfl, HW.out.2.2.trans y1⟩
 | true =>
  have HM := Lib.hid hm
  have HC : Hid (tearI L = fstN (tearB L) L.ev.length) := Lib.hid (by unfold tearI; rw [if_pos hm])
  clear hm
  have HY1 := Lib.hid y1
  clear y1
  go_wp2_with fail
  go_loopw [3] (fun s wr => ∃ r : Nat, r ≤ L.ev.length ∧ s = .int .i64 (r : Int) ∧ (∀ j, j < r → tearB L j = false) ∧ Ext w1 wr) (fun s _ => L.ev.length - (intOf s).toNat)
  case atStart => exact ⟨0, Nat.zero_le _, rfl, fun j hj => absurd hj (Nat.not_lt_zero _), Mod.refl _ _⟩
  case round =>
   obtain ⟨r, hr, rfl, hn, xx⟩ := hrel
   have HN := Lib.hid hn
   have HX := Lib.hid xx
   obtain ⟨l0, l1'⟩ := (KE.out _ (HY1.out.trans xx)).2.cells
   clear hn xx
   by_cases hlt : r < L.ev.length
   · have hlt' : (r : Int) < (L.ev.length : Int) := by omega
     have i0 := HI.out r hlt
     have hlg := (KE.out _ (HY1.out.trans HX.out)).1
     obtain ⟨c0, c1, c2, c3, c4, c5, c6, c7, c8, c9⟩ := hlg.cells hlt
     have hea := hlg.ev r hlt
     obtain ⟨e, he⟩ : ∃ e, e = evn L.ev r := ⟨_, rfl⟩
     obtain ⟨v, hv⟩ : ∃ v, v = V r := ⟨_, rfl⟩
     obtain ⟨A, hA⟩ : ∃ A, A = at_ ve (r * 10) := ⟨_, rfl⟩
     rw [← hA] at i0 c0 c1 c2 c3 c4 c5 c6 c7 c8 c9
     rw [← he] at c0 c1 c2 c3 c4 c5 c6 hea
     rw [← hv] at c7 c8 c9 hea
     obtain ⟨k1, k2, k3, t1, t2, t3⟩ := ev_facts hea
     obtain ⟨w5, hw5⟩ : ∃ w5, w5 = wr.alloc (.cells (evArr e v) 116) := ⟨_, rfl⟩
     obtain ⟨g5, hg5⟩ : ∃ g, g = wr.heap.size := ⟨_, rfl⟩
     have x5 : Ext wr w5 := by rw [hw5]; exact (Mod.refl _ _).alloc _
     have b5 : REvBox w5 g5 e v := ⟨by rw [hw5, hg5]; exact heap_alloc_new _ _⟩
     have HEA := Lib.hid (hea.ext x5)
     have HE := Lib.hid (And.intro he hv)
     have HW5 := Lib.hid (And.intro hw5 (And.intro hg5 (And.intro x5 b5)))
     have l5 := hea.fr.sl.run_len (P := Tryz.prog) II.und 3
     have J5 := Lib.hid (hea.fr.sl.run_idx (P := Tryz.prog) II.und II.size .i64)
     obtain ⟨d0, d1, d2, d3, d4, d5, d6, d7, d8, d9⟩ := b5.cells
     clear hlg hea he hv hA hw5 hg5 x5 b5
     go_upto_region 7 with fail
     rw [← HW5.out.1, ← HW5.out.2.1]
     clear c0 c1 c2 c3 c4 c5 c6 c7 c8 c9 t1 t2 t3 i0
     have h8 : (e.fr.length : Int) ≤ 8 := by have := may_small HM.out hlt; rw [← HE.out.1] at this; omega
     clear l0 l1'
     obtain ⟨N1, hN1⟩ : ∃ N, N = e.nt := ⟨_, rfl⟩
     have HN1 := Lib.hid hN1
     clear hN1
     go_wp2_with fail
     clear d0 d1 d2 d3 d4 d5 d6 d7 d8 d9
     go_loopw [5, 6] (fun s5 s wq => ∃ i : Nat, i ≤ e.fr.length ∧ s = .int .i64 (i : Int) ∧ ∃ one : Int, s5 = .int .i64 one ∧ (-1 ≤ one ∧ one ≤ 64) ∧ TearI L r i one ∧ Ext w5 wq) (fun _ s _ => e.fr.length - (intOf s).toNat)
     case atStart => exact ⟨0, Nat.zero_le _, rfl, -1, rfl, by omega, tear_zero L r, Mod.refl _ _⟩
     case round =>
      obtain ⟨i, hi, rfl, one, rfl, hone, ht, xq⟩ := hrel
      have HT := Lib.hid ht
      have HXQ := Lib.hid xq
      have HXW := Lib.hid (HX.out.trans (HW5.out.2.2.1.trans xq))
      obtain ⟨d0, d1, d2, d3, d4, d5, d6, d7, d8, d9⟩ := (HW5.out.2.2.2.ext xq).cells
      rw [← HN1.out] at d3
      clear ht
      by_cases hil : i < e.fr.length
      · have hil' : (i : Int) < (e.fr.length : Int) := by omega
        cases N1 with
        | false =>
         have HNN : Hid (∀ j, j < r + 1 → tearB L j = false) := Lib.hid (lt_step HN.out (tear_nt (by rw [← HE.out.1]; exact HN1.out.symm)))
         clear xq
         go_wp2_with fail
         go_roundw
         case rel => exact ⟨r + 1, by omega, by go_num, HNN.out, HXW.out⟩
         case measure => simp [intOf]; omega
        | true =>
         have j0 := J5.out i hil
         simp only [Nat.mul_one] at j0
         have cF := IntsAt.cell (l := e.fr) (v := v.f) ((HEA.out.ext xq).fr) hil
         obtain ⟨z, hz⟩ : ∃ x, x = e.fr[i] := ⟨_, rfl⟩
         rw [← hz] at cF
         have hfx : frn L r i = z := by rw [hz]; exact frn_eq HE.out.1 hil
         have hzr := frn_may HM.out hlt (i := i) (by rw [← HE.out.1]; exact hil)
         rw [hfx] at hzr
         have hqp : qP L r i = (decide (0 ≤ z) && (evn L.ev z.toNat).nt && evEq e (evn L.ev z.toNat)) := by unfold qP; rw [hfx, ← HE.out.1, ← HN1.out, Bool.true_and]
         have KF0 : Hid (∀ w', Ext wr w' → w'.cell? ⟨g0, 0, none⟩ = some ve ∧ w'.cell? ⟨g5, 0, none⟩ = some (.int .i64 (e).ag) ∧ w'.cell? ⟨g5, 1, none⟩ = some (.int .i64 (e).kind) ∧ w'.cell? ⟨g5, 2, none⟩ = some (.bool (e).seq) ∧ w'.cell? ⟨g5, 3, none⟩ = some (.bool true) ∧ w'.cell? ⟨g5, 4, none⟩ = some (.int .i64 (e).blk) ∧ w'.cell? ⟨g5, 5, none⟩ = some (.int .i64 (e).at_) ∧ w'.cell? ⟨g5, 6, none⟩ = some (.int .i64 (e).size) ∧ w'.cell? ⟨g5, 7, none⟩ = some v.r ∧ w'.cell? ⟨g5, 8, none⟩ = some v.w ∧ w'.cell? ⟨g5, 9, none⟩ = some v.f) := Lib.hid fun w' y => by
          have h1 := (HW5.out.2.2.2.ext (xq.trans y)).cells
          rw [← HN1.out] at h1
          exact ⟨(KE.out _ (HY1.out.trans (HXW.out.trans y))).2.cells.1, h1⟩
         have HV1 : Hid (∀ w', Ext wr w' → EvAt w' ⟨e.ag, e.kind, e.seq, true, e.blk, e.at_, e.size, e.rd, e.wr, e.fr⟩ v) := Lib.hid fun w' y => by rw [HN1.out]; exact HEA.out.ext (xq.trans y)
         have HFX := Lib.hid hfx
         clear hz hfx
         rcases hzr with rfl | ⟨a, rfl, har⟩
         · have HQN : Hid (qP L r i = false) := Lib.hid (by rw [hqp]; simp)
           have KF := KF0
           clear hqp xq
           go_upto_region 12 with fail
           clear d0 d1 d2 d3 d4 d5 d6 d7 d8 d9 cF j0
           refine wp_region_plan [(0, true), (1, true), (2, true), (3, true), (4, true), (5, true), (6, true), (7, true), (8, true), (9, true), (10, true), (11, true), (12, true), (13, true), (14, true), (15, true), (16, true), (17, true), (18, false), (19, true), (20, true), (21, true), (22, true), (23, true), (24, true), (25, true)] (fun w' => w'.cell? ⟨g0, 0, none⟩ = some ve ∧ w'.cell? ⟨g5, 0, none⟩ = some (.int .i64 (e).ag) ∧ w'.cell? ⟨g5, 1, none⟩ = some (.int .i64 (e).kind) ∧ w'.cell? ⟨g5, 2, none⟩ = some (.bool (e).seq) ∧ w'.cell? ⟨g5, 3, none⟩ = some (.bool true) ∧ w'.cell? ⟨g5, 4, none⟩ = some (.int .i64 (e).blk) ∧ w'.cell? ⟨g5, 5, none⟩ = some (.int .i64 (e).at_) ∧ w'.cell? ⟨g5, 6, none⟩ = some (.int .i64 (e).size) ∧ w'.cell? ⟨g5, 7, none⟩ = some v.r ∧ w'.cell? ⟨g5, 8, none⟩ = some v.w ∧ w'.cell? ⟨g5, 9, none⟩ = some v.f) (by kernel_rfl) (by kernel_rfl) (by kernel_rfl) (fun _ d _ _ _ h => by cases d <;> exact h) (KF.out _ (Mod.drew (Mod.refl _ _))) ?_
           simp only [planL, getO]
           iterate 3 (refine plan_take (v := ?_) (by rfl) (fun wS hS => ?_) ?_; rotate_left; (focus ((try dsimp only at hS); go_simp; (try with_reducible rfl); done)); (try simp only [Act.put, List.setIfInBounds_toArray, List.set_cons_zero, List.set_cons_succ]))
           iterate 7 (refine plan_skip (by rfl) ?_; (try simp only [Act.put, List.setIfInBounds_toArray, List.set_cons_zero, List.set_cons_succ]))
           iterate 2 (refine plan_take (v := ?_) (by rfl) (fun wS hS => ?_) ?_; rotate_left; (focus ((try dsimp only at hS); go_simp; (try with_reducible rfl); done)); (try simp only [Act.put, List.setIfInBounds_toArray, List.set_cons_zero, List.set_cons_succ]))
           iterate 8 (refine plan_skip (by rfl) ?_; (try simp only [Act.put, List.setIfInBounds_toArray, List.set_cons_zero, List.set_cons_succ]))
           iterate 2 (refine plan_take (v := ?_) (by rfl) (fun wS hS => ?_) ?_; rotate_left; (focus ((try dsimp only at hS); go_simp; (try with_reducible rfl); done)); (try simp only [Act.put, List.setIfInBounds_toArray, List.set_cons_zero, List.set_cons_succ]))
           iterate 3 (refine plan_skip (by rfl) ?_; (try simp only [Act.put, List.setIfInBounds_toArray, List.set_cons_zero, List.set_cons_succ]))
           (refine plan_take (v := ?_) (by rfl) (fun wS hS => ?_) ?_; rotate_left; (focus ((try dsimp only at hS); go_simp; (try with_reducible rfl); done)); (try simp only [Act.put, List.setIfInBounds_toArray, List.set_cons_zero, List.set_cons_succ]))
           refine plan_nil ?_
           have HNN := Lib.hid (tear_skip HT.out HQN.out)
           go_wp2_with fail
           go_roundw
           case rel => exact ⟨i + 1, by omega, by go_num, one, rfl, hone, HNN.out, HXQ.out.trans (Mod.drew (Mod.refl _ _))⟩
           case measure => simp [intOf]; omega
         · have hal : a < L.ev.length := by omega
           have i2 := HI.out a hal
           obtain ⟨x, hxe⟩ : ∃ x, x = evn L.ev a := ⟨_, rfl⟩
           obtain ⟨u, hue⟩ : ∃ u, u = V a := ⟨_, rfl⟩
           obtain ⟨A2, hA2⟩ : ∃ A, A = at_ ve (a * 10) := ⟨_, rfl⟩
           rw [← hA2] at i2
           rw [Int.toNat_natCast, ← hxe] at hqp
           obtain ⟨N2, hN2⟩ : ∃ S, S = x.nt := ⟨_, rfl⟩
           obtain ⟨Q, hQ⟩ : ∃ Q, Q = evEq x e := ⟨_, rfl⟩
           rw [← hN2, evEq_turn e x, ← hQ, show decide (0 ≤ (a : Int)) = true by simp] at hqp
           have HQP : Hid (qP L r i = (true && N2 && Q)) := Lib.hid hqp
           have HQ := Lib.hid hQ.symm
           have ha64 : (a : Int) ≤ 64 := by omega
           have hna : ¬ (a : Int) < 0 := by omega
           have hxa := (KE.out _ (HY1.out.trans HXW.out)).1.ev a hal
           rw [← hxe, ← hue] at hxa
           obtain ⟨j1, j2, j3, -⟩ := ev_facts hxa
           have KF1 : Hid (∀ w', Ext wr w' → w'.cell? ⟨g0, 0, none⟩ = some ve ∧ w'.cell? ⟨g5, 0, none⟩ = some (.int .i64 (e).ag) ∧ w'.cell? ⟨g5, 1, none⟩ = some (.int .i64 (e).kind) ∧ w'.cell? ⟨g5, 2, none⟩ = some (.bool (e).seq) ∧ w'.cell? ⟨g5, 3, none⟩ = some (.bool true) ∧ w'.cell? ⟨g5, 4, none⟩ = some (.int .i64 (e).blk) ∧ w'.cell? ⟨g5, 5, none⟩ = some (.int .i64 (e).at_) ∧ w'.cell? ⟨g5, 6, none⟩ = some (.int .i64 (e).size) ∧ w'.cell? ⟨g5, 7, none⟩ = some v.r ∧ w'.cell? ⟨g5, 8, none⟩ = some v.w ∧ w'.cell? ⟨g5, 9, none⟩ = some v.f ∧ w'.cell? A2 = some (.int .i64 (x).ag) ∧ w'.cell? ⟨A2.block, A2.off + 1, none⟩ = some (.int .i64 (x).kind) ∧ w'.cell? ⟨A2.block, A2.off + 2, none⟩ = some (.bool (x).seq) ∧ w'.cell? ⟨A2.block, A2.off + 3, none⟩ = some (.bool N2) ∧ w'.cell? ⟨A2.block, A2.off + 4, none⟩ = some (.int .i64 (x).blk) ∧ w'.cell? ⟨A2.block, A2.off + 5, none⟩ = some (.int .i64 (x).at_) ∧ w'.cell? ⟨A2.block, A2.off + 6, none⟩ = some (.int .i64 (x).size) ∧ w'.cell? ⟨A2.block, A2.off + 7, none⟩ = some u.r ∧ w'.cell? ⟨A2.block, A2.off + 8, none⟩ = some u.w ∧ w'.cell? ⟨A2.block, A2.off + 9, none⟩ = some u.f) := Lib.hid fun w' y => by
            obtain ⟨b0, b1, b2, b3, b4, b5, b6, b7, b8, b9, b10⟩ := KF0.out _ y
            have h1 := (KE.out _ (HY1.out.trans (HXW.out.trans y))).1.cells hal
            rw [← hxe, ← hue, ← hA2, ← hN2] at h1
            exact ⟨b0, b1, b2, b3, b4, b5, b6, b7, b8, b9, b10, h1⟩
           have KV : Hid (∀ w', Ext wr w' → EvAt w' ⟨e.ag, e.kind, e.seq, true, e.blk, e.at_, e.size, e.rd, e.wr, e.fr⟩ v ∧ EvAt w' ⟨x.ag, x.kind, x.seq, N2, x.blk, x.at_, x.size, x.rd, x.wr, x.fr⟩ u) := Lib.hid fun w' y => ⟨HV1.out _ y, by rw [hN2]; exact hxa.ext y⟩
           clear hqp hxe hue hA2 hN2 hQ hxa xq
           go_upto_region 12 with fail
           clear d0 d1 d2 d3 d4 d5 d6 d7 d8 d9 cF j0
           cases N2 with
           | false =>
            have HQN : Hid (qP L r i = false) := Lib.hid (by rw [HQP.out]; rfl)
            have KF := KF1
            refine wp_region_plan [(0, true), (1, true), (2, true), (3, true), (4, true), (5, true), (6, true), (7, true), (8, true), (9, true), (10, true), (11, true), (12, true), (13, true), (14, true), (15, true), (16, true), (17, true), (18, false), (19, true), (20, true), (21, true), (22, true), (23, true), (24, true), (25, true)] (fun w' => w'.cell? ⟨g0, 0, none⟩ = some ve ∧ w'.cell? ⟨g5, 0, none⟩ = some (.int .i64 (e).ag) ∧ w'.cell? ⟨g5, 1, none⟩ = some (.int .i64 (e).kind) ∧ w'.cell? ⟨g5, 2, none⟩ = some (.bool (e).seq) ∧ w'.cell? ⟨g5, 3, none⟩ = some (.bool true) ∧ w'.cell? ⟨g5, 4, none⟩ = some (.int .i64 (e).blk) ∧ w'.cell? ⟨g5, 5, none⟩ = some (.int .i64 (e).at_) ∧ w'.cell? ⟨g5, 6, none⟩ = some (.int .i64 (e).size) ∧ w'.cell? ⟨g5, 7, none⟩ = some v.r ∧ w'.cell? ⟨g5, 8, none⟩ = some v.w ∧ w'.cell? ⟨g5, 9, none⟩ = some v.f ∧ w'.cell? A2 = some (.int .i64 (x).ag) ∧ w'.cell? ⟨A2.block, A2.off + 1, none⟩ = some (.int .i64 (x).kind) ∧ w'.cell? ⟨A2.block, A2.off + 2, none⟩ = some (.bool (x).seq) ∧ w'.cell? ⟨A2.block, A2.off + 3, none⟩ = some (.bool false) ∧ w'.cell? ⟨A2.block, A2.off + 4, none⟩ = some (.int .i64 (x).blk) ∧ w'.cell? ⟨A2.block, A2.off + 5, none⟩ = some (.int .i64 (x).at_) ∧ w'.cell? ⟨A2.block, A2.off + 6, none⟩ = some (.int .i64 (x).size) ∧ w'.cell? ⟨A2.block, A2.off + 7, none⟩ = some u.r ∧ w'.cell? ⟨A2.block, A2.off + 8, none⟩ = some u.w ∧ w'.cell? ⟨A2.block, A2.off + 9, none⟩ = some u.f) (by kernel_rfl) (by kernel_rfl) (by kernel_rfl) (fun _ d _ _ _ h => by cases d <;> exact h) (KF.out _ (Mod.drew (Mod.refl _ _))) ?_
            simp only [planL, getO]
            iterate 12 (refine plan_take (v := ?_) (by rfl) (fun wS hS => ?_) ?_; rotate_left; (focus ((try dsimp only at hS); go_simp; (try with_reducible rfl); done)); (try simp only [Act.put, List.setIfInBounds_toArray, List.set_cons_zero, List.set_cons_succ]))
            iterate 8 (refine plan_skip (by rfl) ?_; (try simp only [Act.put, List.setIfInBounds_toArray, List.set_cons_zero, List.set_cons_succ]))
            iterate 2 (refine plan_take (v := ?_) (by rfl) (fun wS hS => ?_) ?_; rotate_left; (focus ((try dsimp only at hS); go_simp; (try with_reducible rfl); done)); (try simp only [Act.put, List.setIfInBounds_toArray, List.set_cons_zero, List.set_cons_succ]))
            iterate 3 (refine plan_skip (by rfl) ?_; (try simp only [Act.put, List.setIfInBounds_toArray, List.set_cons_zero, List.set_cons_succ]))
            (refine plan_take (v := ?_) (by rfl) (fun wS hS => ?_) ?_; rotate_left; (focus ((try dsimp only at hS); go_simp; (try with_reducible rfl); done)); (try simp only [Act.put, List.setIfInBounds_toArray, List.set_cons_zero, List.set_cons_succ]))
            refine plan_nil ?_
            have HNN := Lib.hid (tear_skip HT.out HQN.out)
            go_wp2_with fail
            go_roundw
            case rel => exact ⟨i + 1, by omega, by go_num, one, rfl, hone, HNN.out, HXQ.out.trans (Mod.drew (Mod.refl _ _))⟩
            case measure => simp [intOf]; omega
           | true =>
            have KF := KF1
            cases Q with
            | false =>
             have HQN : Hid (qP L r i = false) := Lib.hid (by rw [HQP.out]; rfl)
             refine wp_region_plan [(0, true), (1, true), (2, true), (3, true), (4, true), (5, true), (6, true), (7, true), (8, true), (9, true), (10, true), (11, true), (12, true), (13, true), (14, true), (15, true), (16, true), (17, true), (18, false), (19, true), (20, true), (21, true), (22, true), (23, true), (24, true), (25, true)] (fun w' => w'.cell? ⟨g0, 0, none⟩ = some ve ∧ w'.cell? ⟨g5, 0, none⟩ = some (.int .i64 (e).ag) ∧ w'.cell? ⟨g5, 1, none⟩ = some (.int .i64 (e).kind) ∧ w'.cell? ⟨g5, 2, none⟩ = some (.bool (e).seq) ∧ w'.cell? ⟨g5, 3, none⟩ = some (.bool true) ∧ w'.cell? ⟨g5, 4, none⟩ = some (.int .i64 (e).blk) ∧ w'.cell? ⟨g5, 5, none⟩ = some (.int .i64 (e).at_) ∧ w'.cell? ⟨g5, 6, none⟩ = some (.int .i64 (e).size) ∧ w'.cell? ⟨g5, 7, none⟩ = some v.r ∧ w'.cell? ⟨g5, 8, none⟩ = some v.w ∧ w'.cell? ⟨g5, 9, none⟩ = some v.f ∧ w'.cell? A2 = some (.int .i64 (x).ag) ∧ w'.cell? ⟨A2.block, A2.off + 1, none⟩ = some (.int .i64 (x).kind) ∧ w'.cell? ⟨A2.block, A2.off + 2, none⟩ = some (.bool (x).seq) ∧ w'.cell? ⟨A2.block, A2.off + 3, none⟩ = some (.bool true) ∧ w'.cell? ⟨A2.block, A2.off + 4, none⟩ = some (.int .i64 (x).blk) ∧ w'.cell? ⟨A2.block, A2.off + 5, none⟩ = some (.int .i64 (x).at_) ∧ w'.cell? ⟨A2.block, A2.off + 6, none⟩ = some (.int .i64 (x).size) ∧ w'.cell? ⟨A2.block, A2.off + 7, none⟩ = some u.r ∧ w'.cell? ⟨A2.block, A2.off + 8, none⟩ = some u.w ∧ w'.cell? ⟨A2.block, A2.off + 9, none⟩ = some u.f) (by kernel_rfl) (by kernel_rfl) (by kernel_rfl) (fun _ d _ _ _ h => by cases d <;> exact h) (KF.out _ (Mod.drew (Mod.refl _ _))) ?_
             simp only [planL, getO]
             iterate 18 (refine plan_take (v := ?_) (by rfl) (fun wS hS => ?_) ?_; rotate_left; (focus ((try dsimp only at hS); go_simp; (try with_reducible rfl); done)); (try simp only [Act.put, List.setIfInBounds_toArray, List.set_cons_zero, List.set_cons_succ]))
             refine plan_call (fun K hK => ?_)
             go_simp
             go_at_call 143; refine (requal_any _ ⟨x.ag, x.kind, x.seq, true, x.blk, x.at_, x.size, x.rd, x.wr, x.fr⟩ ⟨e.ag, e.kind, e.seq, true, e.blk, e.at_, e.size, e.rd, e.wr, e.fr⟩ u v (KV.out _ (Mod.drew (Mod.refl _ _))).2 (KV.out _ (Mod.drew (Mod.refl _ _))).1).mono ?_; rintro en w6 ⟨rfl, y6⟩; have E6 : Ext wr w6 := Mod.trans (Mod.drew (Mod.refl _ _)) y6; rw [show evEq ⟨x.ag, x.kind, x.seq, true, x.blk, x.at_, x.size, x.rd, x.wr, x.fr⟩ ⟨e.ag, e.kind, e.seq, true, e.blk, e.at_, e.size, e.rd, e.wr, e.fr⟩ = false from HQ.out]
             refine hK.out _ _ (KF.out _ E6) ?_
             clear hK K
             (try simp only [Act.put, List.setIfInBounds_toArray, List.set_cons_zero, List.set_cons_succ])
             iterate 3 (refine plan_take (v := ?_) (by rfl) (fun wS hS => ?_) ?_; rotate_left; (focus ((try dsimp only at hS); go_simp; (try with_reducible rfl); done)); (try simp only [Act.put, List.setIfInBounds_toArray, List.set_cons_zero, List.set_cons_succ]))
             iterate 3 (refine plan_skip (by rfl) ?_; (try simp only [Act.put, List.setIfInBounds_toArray, List.set_cons_zero, List.set_cons_succ]))
             (refine plan_take (v := ?_) (by rfl) (fun wS hS => ?_) ?_; rotate_left; (focus ((try dsimp only at hS); go_simp; (try with_reducible rfl); done)); (try simp only [Act.put, List.setIfInBounds_toArray, List.set_cons_zero, List.set_cons_succ]))
             refine plan_nil ?_
             have HNN := Lib.hid (tear_skip HT.out HQN.out)
             go_wp2_with fail
             go_roundw
             case rel => exact ⟨i + 1, by omega, by go_num, one, rfl, hone, HNN.out, HXQ.out.trans E6⟩
             case measure => simp [intOf]; omega
            | true =>
             have HQN : Hid (qP L r i = true) := Lib.hid (by rw [HQP.out]; rfl)
             by_cases hoa : one = (a : Int)
             · have hne : ((a : Int) == one) = true := by simp [hoa]
               have HNN := Lib.hid (tear_take HT.out HQN.out (.inr (by rw [HFX.out]; exact hoa)))
               have HOA := Lib.hid hoa
               clear hoa
               refine wp_region_plan [(0, true), (1, true), (2, true), (3, true), (4, true), (5, true), (6, true), (7, true), (8, true), (9, true), (10, true), (11, true), (12, true), (13, true), (14, true), (15, true), (16, true), (17, true), (18, false), (19, true), (20, true), (21, true), (22, true), (23, true), (24, true), (25, true)] (fun w' => w'.cell? ⟨g0, 0, none⟩ = some ve ∧ w'.cell? ⟨g5, 0, none⟩ = some (.int .i64 (e).ag) ∧ w'.cell? ⟨g5, 1, none⟩ = some (.int .i64 (e).kind) ∧ w'.cell? ⟨g5, 2, none⟩ = some (.bool (e).seq) ∧ w'.cell? ⟨g5, 3, none⟩ = some (.bool true) ∧ w'.cell? ⟨g5, 4, none⟩ = some (.int .i64 (e).blk) ∧ w'.cell? ⟨g5, 5, none⟩ = some (.int .i64 (e).at_) ∧ w'.cell? ⟨g5, 6, none⟩ = some (.int .i64 (e).size) ∧ w'.cell? ⟨g5, 7, none⟩ = some v.r ∧ w'.cell? ⟨g5, 8, none⟩ = some v.w ∧ w'.cell? ⟨g5, 9, none⟩ = some v.f ∧ w'.cell? A2 = some (.int .i64 (x).ag) ∧ w'.cell? ⟨A2.block, A2.off + 1, none⟩ = some (.int .i64 (x).kind) ∧ w'.cell? ⟨A2.block, A2.off + 2, none⟩ = some (.bool (x).seq) ∧ w'.cell? ⟨A2.block, A2.off + 3, none⟩ = some (.bool true) ∧ w'.cell? ⟨A2.block, A2.off + 4, none⟩ = some (.int .i64 (x).blk) ∧ w'.cell? ⟨A2.block, A2.off + 5, none⟩ = some (.int .i64 (x).at_) ∧ w'.cell? ⟨A2.block, A2.off + 6, none⟩ = some (.int .i64 (x).size) ∧ w'.cell? ⟨A2.block, A2.off + 7, none⟩ = some u.r ∧ w'.cell? ⟨A2.block, A2.off + 8, none⟩ = some u.w ∧ w'.cell? ⟨A2.block, A2.off + 9, none⟩ = some u.f) (by kernel_rfl) (by kernel_rfl) (by kernel_rfl) (fun _ d _ _ _ h => by cases d <;> exact h) (KF.out _ (Mod.drew (Mod.refl _ _))) ?_
               simp only [planL, getO]
               iterate 18 (refine plan_take (v := ?_) (by rfl) (fun wS hS => ?_) ?_; rotate_left; (focus ((try dsimp only at hS); go_simp; (try with_reducible rfl); done)); (try simp only [Act.put, List.setIfInBounds_toArray, List.set_cons_zero, List.set_cons_succ]))
               refine plan_call (fun K hK => ?_)
               go_simp
               go_at_call 143; refine (requal_any _ ⟨x.ag, x.kind, x.seq, true, x.blk, x.at_, x.size, x.rd, x.wr, x.fr⟩ ⟨e.ag, e.kind, e.seq, true, e.blk, e.at_, e.size, e.rd, e.wr, e.fr⟩ u v (KV.out _ (Mod.drew (Mod.refl _ _))).2 (KV.out _ (Mod.drew (Mod.refl _ _))).1).mono ?_; rintro en w6 ⟨rfl, y6⟩; have E6 : Ext wr w6 := Mod.trans (Mod.drew (Mod.refl _ _)) y6; rw [show evEq ⟨x.ag, x.kind, x.seq, true, x.blk, x.at_, x.size, x.rd, x.wr, x.fr⟩ ⟨e.ag, e.kind, e.seq, true, e.blk, e.at_, e.size, e.rd, e.wr, e.fr⟩ = true from HQ.out]
               refine hK.out _ _ (KF.out _ E6) ?_
               clear hK K
               (try simp only [Act.put, List.setIfInBounds_toArray, List.set_cons_zero, List.set_cons_succ])
               iterate 7 (refine plan_take (v := ?_) (by rfl) (fun wS hS => ?_) ?_; rotate_left; (focus ((try dsimp only at hS); go_simp; (try with_reducible rfl); done)); (try simp only [Act.put, List.setIfInBounds_toArray, List.set_cons_zero, List.set_cons_succ]))
               refine plan_nil ?_
               go_wp2_with fail
               go_roundw
               case rel => exact ⟨i + 1, by omega, by go_num, one, rfl, hone, by rw [HOA.out, ← HFX.out]; exact HNN.out, HXQ.out.trans E6⟩
               case measure => simp [intOf]; omega
             · have hne : ((a : Int) == one) = false := by rw [beq_eq_false_iff_ne]; exact fun h => hoa h.symm
               by_cases h0 : one < 0
               · have h0' : ¬ 0 ≤ one := by omega
                 have HNN := Lib.hid (tear_take HT.out HQN.out (.inl h0))
                 clear hoa
                 refine wp_region_plan [(0, true), (1, true), (2, true), (3, true), (4, true), (5, true), (6, true), (7, true), (8, true), (9, true), (10, true), (11, true), (12, true), (13, true), (14, true), (15, true), (16, true), (17, true), (18, false), (19, true), (20, true), (21, true), (22, true), (23, true), (24, true), (25, true)] (fun w' => w'.cell? ⟨g0, 0, none⟩ = some ve ∧ w'.cell? ⟨g5, 0, none⟩ = some (.int .i64 (e).ag) ∧ w'.cell? ⟨g5, 1, none⟩ = some (.int .i64 (e).kind) ∧ w'.cell? ⟨g5, 2, none⟩ = some (.bool (e).seq) ∧ w'.cell? ⟨g5, 3, none⟩ = some (.bool true) ∧ w'.cell? ⟨g5, 4, none⟩ = some (.int .i64 (e).blk) ∧ w'.cell? ⟨g5, 5, none⟩ = some (.int .i64 (e).at_) ∧ w'.cell? ⟨g5, 6, none⟩ = some (.int .i64 (e).size) ∧ w'.cell? ⟨g5, 7, none⟩ = some v.r ∧ w'.cell? ⟨g5, 8, none⟩ = some v.w ∧ w'.cell? ⟨g5, 9, none⟩ = some v.f ∧ w'.cell? A2 = some (.int .i64 (x).ag) ∧ w'.cell? ⟨A2.block, A2.off + 1, none⟩ = some (.int .i64 (x).kind) ∧ w'.cell? ⟨A2.block, A2.off + 2, none⟩ = some (.bool (x).seq) ∧ w'.cell? ⟨A2.block, A2.off + 3, none⟩ = some (.bool true) ∧ w'.cell? ⟨A2.block, A2.off + 4, none⟩ = some (.int .i64 (x).blk) ∧ w'.cell? ⟨A2.block, A2.off + 5, none⟩ = some (.int .i64 (x).at_) ∧ w'.cell? ⟨A2.block, A2.off + 6, none⟩ = some (.int .i64 (x).size) ∧ w'.cell? ⟨A2.block, A2.off + 7, none⟩ = some u.r ∧ w'.cell? ⟨A2.block, A2.off + 8, none⟩ = some u.w ∧ w'.cell? ⟨A2.block, A2.off + 9, none⟩ = some u.f) (by kernel_rfl) (by kernel_rfl) (by kernel_rfl) (fun _ d _ _ _ h => by cases d <;> exact h) (KF.out _ (Mod.drew (Mod.refl _ _))) ?_
                 simp only [planL, getO]
                 iterate 18 (refine plan_take (v := ?_) (by rfl) (fun wS hS => ?_) ?_; rotate_left; (focus ((try dsimp only at hS); go_simp; (try with_reducible rfl); done)); (try simp only [Act.put, List.setIfInBounds_toArray, List.set_cons_zero, List.set_cons_succ]))
                 refine plan_call (fun K hK => ?_)
                 go_simp
                 go_at_call 143; refine (requal_any _ ⟨x.ag, x.kind, x.seq, true, x.blk, x.at_, x.size, x.rd, x.wr, x.fr⟩ ⟨e.ag, e.kind, e.seq, true, e.blk, e.at_, e.size, e.rd, e.wr, e.fr⟩ u v (KV.out _ (Mod.drew (Mod.refl _ _))).2 (KV.out _ (Mod.drew (Mod.refl _ _))).1).mono ?_; rintro en w6 ⟨rfl, y6⟩; have E6 : Ext wr w6 := Mod.trans (Mod.drew (Mod.refl _ _)) y6; rw [show evEq ⟨x.ag, x.kind, x.seq, true, x.blk, x.at_, x.size, x.rd, x.wr, x.fr⟩ ⟨e.ag, e.kind, e.seq, true, e.blk, e.at_, e.size, e.rd, e.wr, e.fr⟩ = true from HQ.out]
                 refine hK.out _ _ (KF.out _ E6) ?_
                 clear hK K
                 (try simp only [Act.put, List.setIfInBounds_toArray, List.set_cons_zero, List.set_cons_succ])
                 iterate 7 (refine plan_take (v := ?_) (by rfl) (fun wS hS => ?_) ?_; rotate_left; (focus ((try dsimp only at hS); go_simp; (try with_reducible rfl); done)); (try simp only [Act.put, List.setIfInBounds_toArray, List.set_cons_zero, List.set_cons_succ]))
                 refine plan_nil ?_
                 go_wp2_with fail
                 go_roundw
                 case rel => exact ⟨i + 1, by omega, by go_num, (a : Int), rfl, by omega, by rw [← HFX.out]; exact HNN.out, HXQ.out.trans E6⟩
                 case measure => simp [intOf]; omega
               · have h0' : 0 ≤ one := by omega
                 have HYY : Hid ((r : Int) = tearI L) := Lib.hid (by
                  rw [HC.out, fstN_hit hlt HN.out (tear_hit HT.out (by rw [← HE.out.1]; exact hil) HQN.out h0' (by rw [HFX.out]; exact hoa))])
                 clear hoa
                 refine wp_region_plan [(0, true), (1, true), (2, true), (3, true), (4, true), (5, true), (6, true), (7, true), (8, true), (9, true), (10, true), (11, true), (12, true), (13, true), (14, true), (15, true), (16, true), (17, true), (18, false), (19, true), (20, true), (21, true), (22, true), (23, true), (24, true), (25, true)] (fun w' => w'.cell? ⟨g0, 0, none⟩ = some ve ∧ w'.cell? ⟨g5, 0, none⟩ = some (.int .i64 (e).ag) ∧ w'.cell? ⟨g5, 1, none⟩ = some (.int .i64 (e).kind) ∧ w'.cell? ⟨g5, 2, none⟩ = some (.bool (e).seq) ∧ w'.cell? ⟨g5, 3, none⟩ = some (.bool true) ∧ w'.cell? ⟨g5, 4, none⟩ = some (.int .i64 (e).blk) ∧ w'.cell? ⟨g5, 5, none⟩ = some (.int .i64 (e).at_) ∧ w'.cell? ⟨g5, 6, none⟩ = some (.int .i64 (e).size) ∧ w'.cell? ⟨g5, 7, none⟩ = some v.r ∧ w'.cell? ⟨g5, 8, none⟩ = some v.w ∧ w'.cell? ⟨g5, 9, none⟩ = some v.f ∧ w'.cell? A2 = some (.int .i64 (x).ag) ∧ w'.cell? ⟨A2.block, A2.off + 1, none⟩ = some (.int .i64 (x).kind) ∧ w'.cell? ⟨A2.block, A2.off + 2, none⟩ = some (.bool (x).seq) ∧ w'.cell? ⟨A2.block, A2.off + 3, none⟩ = some (.bool true) ∧ w'.cell? ⟨A2.block, A2.off + 4, none⟩ = some (.int .i64 (x).blk) ∧ w'.cell? ⟨A2.block, A2.off + 5, none⟩ = some (.int .i64 (x).at_) ∧ w'.cell? ⟨A2.block, A2.off + 6, none⟩ = some (.int .i64 (x).size) ∧ w'.cell? ⟨A2.block, A2.off + 7, none⟩ = some u.r ∧ w'.cell? ⟨A2.block, A2.off + 8, none⟩ = some u.w ∧ w'.cell? ⟨A2.block, A2.off + 9, none⟩ = some u.f) (by kernel_rfl) (by kernel_rfl) (by kernel_rfl) (fun _ d _ _ _ h => by cases d <;> exact h) (KF.out _ (Mod.drew (Mod.refl _ _))) ?_
                 simp only [planL, getO]
                 iterate 18 (refine plan_take (v := ?_) (by rfl) (fun wS hS => ?_) ?_; rotate_left; (focus ((try dsimp only at hS); go_simp; (try with_reducible rfl); done)); (try simp only [Act.put, List.setIfInBounds_toArray, List.set_cons_zero, List.set_cons_succ]))
                 refine plan_call (fun K hK => ?_)
                 go_simp
                 go_at_call 143; refine (requal_any _ ⟨x.ag, x.kind, x.seq, true, x.blk, x.at_, x.size, x.rd, x.wr, x.fr⟩ ⟨e.ag, e.kind, e.seq, true, e.blk, e.at_, e.size, e.rd, e.wr, e.fr⟩ u v (KV.out _ (Mod.drew (Mod.refl _ _))).2 (KV.out _ (Mod.drew (Mod.refl _ _))).1).mono ?_; rintro en w6 ⟨rfl, y6⟩; have E6 : Ext wr w6 := Mod.trans (Mod.drew (Mod.refl _ _)) y6; rw [show evEq ⟨x.ag, x.kind, x.seq, true, x.blk, x.at_, x.size, x.rd, x.wr, x.fr⟩ ⟨e.ag, e.kind, e.seq, true, e.blk, e.at_, e.size, e.rd, e.wr, e.fr⟩ = true from HQ.out]
                 refine hK.out _ _ (KF.out _ E6) ?_
                 clear hK K
                 (try simp only [Act.put, List.setIfInBounds_toArray, List.set_cons_zero, List.set_cons_succ])
                 iterate 7 (refine plan_take (v := ?_) (by rfl) (fun wS hS => ?_) ?_; rotate_left; (focus ((try dsimp only at hS); go_simp; (try with_reducible rfl); done)); (try simp only [Act.put, List.setIfInBounds_toArray, List.set_cons_zero, List.set_cons_succ]))
                 refine plan_nil ?_
                 go_wp2_with fail
                 go_ret
                 exact ⟨by rw [← HYY.out]; rfl, HW.out.2.2.trans (HY1.out.trans (HXW.out.trans E6))⟩
      · have hil' : ¬ (i : Int) < (e.fr.length : Int) := by omega
        have HNN : Hid (∀ j, j < r + 1 → tearB L j = false) := Lib.hid (lt_step HN.out (anyB_none.2 fun i' hi' => HT.out.1 i' (by rw [← HE.out.1] at hi'; omega)))
        clear xq
        go_wp2_with fail
        go_roundw
        case rel => exact ⟨r + 1, by omega, by go_num, HNN.out, HXW.out⟩
        case measure => simp [intOf]; omega
   · have hlt' : ¬ (r : Int) < (L.ev.length : Int) := by omega
     have HF : Hid (tearI L = -1) := Lib.hid (by rw [HC.out]; exact fstN_none fun j hj => HN.out j (by omega))
     go_wp2_with fail
     go_ret
     exact ⟨by rw [HF.out]; rfl, HW.out.2.2.trans (HY1.out.trans HX.out)⟩
end Go.Proofs.YtbhocahmhmafmaaGreat
namespace Go.Proofs.YtbhocahmhmafmaaGreat
open Go.Ren Go.RowKit
set_option linter.unusedVariables false
set_option maxRecDepth 100000 in
set_option maxHeartbeats 800000 in
theorem rvalid_any (w : World) (ve vp : Value) (V : Nat → Vs) (L : Lg) (h : LogIn w ve vp V L) (hsm : SmL L) (hl : L.ev.length ≤ 64) (ov : Value) (l : List Int) (hov : IntsAt w ov l) :
 Calls Tryz.prog 27 #[.agg #[ve, vp], ov] w (FPost (valB L l) w) := by
 have HLE := Lib.hid hl
 have HSM := Lib.hid hsm
 have HOV := Lib.hid hov
 obtain ⟨B, hB⟩ : ∃ B, B = valB L l := ⟨_, rfl⟩
 rw [← hB]
 obtain ⟨M, hM⟩ : ∃ x, x = mayL L := ⟨_, rfl⟩
 obtain ⟨C, hC⟩ : ∃ x, x = cohI L := ⟨_, rfl⟩
 obtain ⟨T, hT⟩ : ∃ x, x = tearI L := ⟨_, rfl⟩
 obtain ⟨O, hO⟩ : ∃ x, x = ordB L l := ⟨_, rfl⟩
 obtain ⟨A, hA⟩ : ∃ x, x = atoI L l := ⟨_, rfl⟩
 have HB : Hid (B = (M && decide (C = -1) && decide (T = -1) && O && decide (A = -1))) := Lib.hid (by rw [hB, hM, hC, hT, hO, hA]; rfl)
 have HM := Lib.hid hM.symm
 have HC := Lib.hid hC.symm
 have HT := Lib.hid hT.symm
 have HO := Lib.hid hO
 have HA := Lib.hid hA.symm
 clear hl hsm hov hB hM hC hT hO hA
 have q1 := Sl.cells_eq h.row
 have q2 := Sl.cells_eq h.prow
 have s1 := Sl.run_st (P := Tryz.prog) h.row
 have s2 := Sl.run_st (P := Tryz.prog) h.prow
 obtain ⟨w0, hw0⟩ : ∃ w0, w0 = w.alloc (.cells #[ve, vp] 57) := ⟨_, rfl⟩
 obtain ⟨g0, hg0⟩ : ∃ g, g = w.heap.size := ⟨_, rfl⟩
 have x0 : Ext w w0 := by rw [hw0]; exact (Mod.refl _ _).alloc _
 have b0 : RLogBox w0 g0 ve vp := ⟨by rw [hw0, hg0]; exact heap_alloc_new _ _⟩
 have HW := Lib.hid (And.intro hw0 (And.intro hg0 x0))
 have KE : Hid (∀ w', Ext w0 w' → LogIn w' ve vp V L ∧ RLogBox w' g0 ve vp) := Lib.hid fun w' x => ⟨h.ext (x0.trans x), b0.ext x⟩
 have HI := Lib.hid (h.row.run_idx (P := Tryz.prog) IRe.und IRe.size .i64)
 have HJ := Lib.hid (h.prow.run_idx (P := Tryz.prog) IP.und IP.size .i64)
 have l1 := h.row.run_len (P := Tryz.prog) IRe.und 3
 have l2 := h.prow.run_len (P := Tryz.prog) IP.und 3
 obtain ⟨c0, c1⟩ := b0.cells
 clear hw0 hg0 x0 b0 h
 go_enter Tryz.func27, Tryz.ntmps27
 go_upto_region 1 with fail
 rw [← HW.out.1, ← HW.out.2.1]
 clear s1 s2
 go_wp2_with fail
 refine (rmay_any _ ve vp V L (KE.out _ (Mod.refl _ _)).1 HSM.out).mono ?_
 rintro e w1 ⟨rfl, z1⟩
 have Y1 := Lib.hid z1
 rw [HM.out]
 clear z1 c0 c1
 cases M with
 | false =>
  go_wp2_with fail
  go_ret
  exact ⟨ret_bool (by rw [HB.out]; rfl), HW.out.2.2.trans Y1.out⟩
 | true =>
  obtain ⟨c0, c1⟩ := (KE.out _ Y1.out).2.cells
  go_wp2_with fail
  refine (rcoherent_any _ ve vp V L (KE.out _ Y1.out).1 HSM.out HLE.out).mono ?_
  rintro e w2 ⟨rfl, z2⟩
  have Y2 := Lib.hid (Mod.trans Y1.out z2)
  rw [HC.out]
  clear z2 c0 c1
  by_cases hC : C = -1
  · subst hC
    obtain ⟨c0, c1⟩ := (KE.out _ Y2.out).2.cells
    go_wp2_with fail
    refine (rtearfree_any _ ve vp V L (KE.out _ Y2.out).1 HSM.out HLE.out).mono ?_
    rintro e w3 ⟨rfl, z3⟩
    have Y3 := Lib.hid (Mod.trans Y2.out z3)
    rw [HT.out]
    clear z3 c0 c1
    by_cases hT : T = -1
    · subst hT
      obtain ⟨c0, c1⟩ := (KE.out _ Y3.out).2.cells
      go_wp2_with fail
      refine (rordered_any _ ve vp V L (KE.out _ Y3.out).1 HSM.out HLE.out ov l (HOV.out.ext (HW.out.2.2.trans Y3.out))).mono ?_
      rintro e w4 ⟨rfl, z4⟩
      have Y4 := Lib.hid (Mod.trans Y3.out z4)
      rw [show ordI L l = (if O = true then -1 else 0) by rw [HO.out]; rfl]
      clear z4 c0 c1
      cases O with
      | false =>
       simp only [Bool.false_eq_true, if_false]
       have HF : Hid (B = false) := Lib.hid (by rw [HB.out]; simp)
       go_wp2_with fail
       go_ret
       exact ⟨ret_bool (by rw [HF.out]), HW.out.2.2.trans Y4.out⟩
      | true =>
       simp only [if_true]
       obtain ⟨c0, c1⟩ := (KE.out _ Y4.out).2.cells
       go_wp2_with fail
       refine (ratomic_any _ ve vp V L (KE.out _ Y4.out).1 HSM.out HLE.out ov l (HOV.out.ext (HW.out.2.2.trans Y4.out))).mono ?_
       rintro e w5 ⟨rfl, z5⟩
       have Y5 := Lib.hid (Mod.trans Y4.out z5)
       rw [HA.out]
       clear z5 c0 c1
       by_cases hA : A = -1
       · subst hA
         go_wp2_with fail
         go_ret
         exact ⟨ret_bool (by rw [HB.out]; rfl), HW.out.2.2.trans Y5.out⟩
       · have eA : (A == -1) = false := by simpa using hA
         have HF : Hid (B = false) := Lib.hid (by rw [HB.out]; simp [hA])
         clear hA
         go_wp2_with fail
         go_ret
         exact ⟨ret_bool (by rw [HF.out]), HW.out.2.2.trans Y5.out⟩
    · have eT : (T == -1) = false := by simpa using hT
      have HF : Hid (B = false) := Lib.hid (by rw [HB.out]; simp [hT])
      clear hT
      go_wp2_with fail
      go_ret
      exact ⟨ret_bool (by rw [HF.out]), HW.out.2.2.trans Y3.out⟩
  · have eC : (C == -1) = false := by simpa using hC
    have HF : Hid (B = false) := Lib.hid (by rw [HB.out]; simp [hC])
    clear hC
    go_wp2_with fail
    go_ret
    exact ⟨ret_bool (by rw [HF.out]), HW.out.2.2.trans Y2.out⟩
end Go.Proofs.YtbhocahmhmafmaaGreat
