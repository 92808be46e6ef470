/-
  The contracts of model.Atomic, model.Valid. No condition. The contracts of model.Valid, of renlaw16's st, ld, first. No condition.
-/
import Derived.Test.YtbhocahmhmafmaaGreatVModPast
import Derived.Test.YtbhocahmhmafmaaGreatVModOrdered
namespace Go.Proofs.YtbhocahmhmafmaaGreat
open Go.Ren Go.RowKit
set_option linter.unusedVariables false
theorem ordB_parts {L : Lg} {l : List Int} (h : ordB L l = true) : mayL L = true ∧ plOk L.ev.length l = true := by
 unfold ordB at h
 simp only [Bool.and_eq_true] at h
 exact h.1
set_option maxRecDepth 100000 in
set_option maxHeartbeats 4000000 in
theorem atomic_any (w : World) (ve vp : Value) (V : Nat → Vs) (L : Lg) (h : LogIn w ve vp V L) (hl : L.ev.length ≤ 64) (ov : Value) (l : List Int) (hov : IntsAt w ov l) :
 Calls Tryz.prog 79 #[.agg #[ve, vp], ov] w (NumPost (atoI L l) w) := by
 have HLE := Lib.hid hl
 have hle : (L.ev.length : Int) ≤ 64 := by omega
 have HOV := Lib.hid hov
 clear hl hov
 have q1 := Sl.cells_eq h.row
 have q2 := Sl.cells_eq h.prow
 have s1 := Sl.run_st (P := Tryz.prog) h.row
 have s2 := Sl.run_st (P := Tryz.prog) h.prow
 obtain ⟨w0, hw0⟩ : ∃ w0, w0 = w.alloc (.cells #[ve, vp] 48) := ⟨_, rfl⟩
 obtain ⟨g0, hg0⟩ : ∃ g, g = w.heap.size := ⟨_, rfl⟩
 have x0 : Ext w w0 := by rw [hw0]; exact (Mod.refl _ _).alloc _
 have b0 : LogBox w0 g0 ve vp := ⟨by rw [hw0, hg0]; exact heap_alloc_new _ _⟩
 have HW := Lib.hid (And.intro hw0 (And.intro hg0 x0))
 have KE : Hid (∀ w', Ext w0 w' → LogIn w' ve vp V L ∧ LogBox w' g0 ve vp) := Lib.hid fun w' x => ⟨h.ext (x0.trans x), b0.ext x⟩
 have HI := Lib.hid (h.row.run_idx (P := Tryz.prog) IEv.und IEv.size .i64)
 have HJ := Lib.hid (h.prow.run_idx (P := Tryz.prog) IP.und IP.size .i64)
 have l1 := h.row.run_len (P := Tryz.prog) IEv.und 3
 have l2 := h.prow.run_len (P := Tryz.prog) IP.und 3
 obtain ⟨c0, c1⟩ := b0.cells
 clear hw0 hg0 x0 b0 h
 go_enter Tryz.func79, Tryz.ntmps79
 go_upto_region 1 with fail
 rw [← HW.out.1, ← HW.out.2.1]
 clear s1 s2
 go_wp2_with fail
 refine (ordered_any _ ve vp V L (KE.out _ (Mod.refl _ _)).1 HLE.out ov l (HOV.out.ext HW.out.2.2)).mono ?_
 rintro e w1 ⟨rfl, y1⟩
 cases hob : ordB L l with
 | false =>
  have HC : Hid (atoI L l = 0) := Lib.hid (by unfold atoI; rw [hob]; rfl)
  rw [show ordI L l = 0 by unfold ordI; rw [hob]; rfl]
  clear hob c0 c1
  go_wp2_with fail
  go_ret
  exact ⟨by rw [HC.out]; rfl, HW.out.2.2.trans y1⟩
 | true =>
  have HC : Hid (atoI L l = fstN (atoB L l) L.ev.length) := Lib.hid (by unfold atoI; rw [if_pos hob])
  have HM := Lib.hid (ordB_parts hob).1
  have HPL := Lib.hid (ordB_parts hob).2
  rw [show ordI L l = -1 by unfold ordI; rw [if_pos hob]]
  have HY1 := Lib.hid y1
  clear hob y1 c0 c1
  obtain ⟨c0, c1⟩ := (KE.out _ HY1.out).2.cells
  go_wp2_with fail
  refine (places_any _ L.ev.length HLE.out ov l (HOV.out.ext (HW.out.2.2.trans HY1.out))).mono ?_
  rintro e w3 ⟨av, rfl, ho, y3⟩
  have hoo := ho HPL.out
  have HO := Lib.hid hoo
  have IA := Lib.hid (hoo.sl.run_idx (P := Tryz.prog) II.und II.size .i64)
  have HX3 := Lib.hid (HY1.out.trans y3)
  clear ho hoo y3 c0 c1
  have KF5 : Hid (∀ w', Ext w3 w' → w'.cell? ⟨g0, 0, none⟩ = some ve ∧ w'.cell? ⟨g0, 1, none⟩ = some vp) := Lib.hid fun w' x => (KE.out _ (HX3.out.trans x)).2.cells
  go_upto_region 4 with fail
  refine wp_region_plan [(0, true), (2, true), (1, false), (3, false), (4, true), (5, true)] (fun w' => w'.cell? ⟨g0, 0, none⟩ = some ve ∧ w'.cell? ⟨g0, 1, none⟩ = some vp) (by kernel_rfl) (by kernel_rfl) (by kernel_rfl) (fun _ d _ _ _ h => by cases d <;> exact h) (KF5.out _ (Mod.drew (Mod.refl _ _))) ?_
  simp only [planL, getO]
  iterate 2 (refine plan_take (v := ?_) (by rfl) (fun wS hS => ?_) ?_; rotate_left; (focus ((try dsimp only at hS); go_simp; (try with_reducible rfl); done)); (try simp only [Act.put, List.setIfInBounds_toArray, List.set_cons_zero, List.set_cons_succ]))
  refine plan_call (fun K hK => ?_)
  go_simp
  go_at_call 125; refine (rsync_any _ ve vp V L (KE.out _ (HX3.out.trans (Mod.drew (Mod.refl _ _)))).1 HLE.out).mono ?_; rintro e w4 h4; obtain ⟨p4, rfl, r4, y4⟩ := rpost_is h4; have E4 : Ext w3 w4 := Mod.trans (Mod.drew (Mod.refl _ _)) y4; rw [relN_may HM.out] at r4; have HR4 := Lib.hid r4; clear h4 r4
  refine hK.out _ _ (KF5.out _ E4) ?_
  clear hK K
  (try simp only [Act.put, List.setIfInBounds_toArray, List.set_cons_zero, List.set_cons_succ])
  refine plan_call (fun K hK => ?_)
  go_simp
  go_at_call 68; refine (rbefore_any _ ve vp V L (KE.out _ (HX3.out.trans E4)).1 HLE.out).mono ?_; rintro e w5 h5; obtain ⟨p5, rfl, r5, y5⟩ := rpost_is h5; have E5 : Ext w3 w5 := Mod.trans E4 y5; rw [relN_may HM.out] at r5; have HR5 := Lib.hid r5; clear h5 r5
  refine hK.out _ _ (KF5.out _ E5) ?_
  clear hK K
  (try simp only [Act.put, List.setIfInBounds_toArray, List.set_cons_zero, List.set_cons_succ])
  iterate 2 (refine plan_take (v := ?_) (by rfl) (fun wS hS => ?_) ?_; rotate_left; (focus ((try dsimp only at hS); go_simp; (try with_reducible rfl); done)); (try simp only [Act.put, List.setIfInBounds_toArray, List.set_cons_zero, List.set_cons_succ]))
  refine plan_nil ?_
  have HX5 := Lib.hid (HX3.out.trans E5)
  have HAV : Hid (∀ w', Ext w5 w' → Own w' 3 1 av L.ev.length ((List.range L.ev.length).map fun k => iv (posI l k))) := Lib.hid fun w' x => HO.out.ext (E5.trans x)
  obtain ⟨c0, c1⟩ := (KE.out _ HX5.out).2.cells
  obtain ⟨wb, hwb⟩ : ∃ wb, wb = w5 := ⟨_, rfl⟩
  have HWB := Lib.hid hwb
  clear hwb
  go_wp2_with fail
  clear c0 c1
  go_loopw [34] (fun s wr => ∃ r : Nat, r ≤ L.ev.length ∧ s = .int .i64 (r : Int) ∧ (∀ j, j < r → atoB L l j = false) ∧ Ext w5 wr) (fun s _ => L.ev.length - (intOf s).toNat)
  case atStart => exact ⟨0, Nat.zero_le _, rfl, fun j hj => absurd hj (Nat.not_lt_zero _), Mod.refl _ _⟩
  case round =>
   obtain ⟨r, hr, rfl, hn, xx⟩ := hrel
   have HN := Lib.hid hn
   have HX := Lib.hid xx
   clear hn xx
   by_cases hlt : r < L.ev.length
   · have hlt' : (r : Int) < (L.ev.length : Int) := by omega
     have i0 := HI.out r hlt
     have hlg := (KE.out _ (HX5.out.trans HX.out)).1
     obtain ⟨c0, c1, c2, c3, c4, c5, c6, c7, c8, c9⟩ := hlg.cells hlt
     have hea := hlg.ev r hlt
     obtain ⟨e, he⟩ : ∃ e, e = evn L.ev r := ⟨_, rfl⟩
     obtain ⟨v, hv⟩ : ∃ v, v = V r := ⟨_, rfl⟩
     obtain ⟨A, hA⟩ : ∃ A, A = at_ ve (r * 10) := ⟨_, rfl⟩
     rw [← hA] at i0 c0 c1 c2 c3 c4 c5 c6 c7 c8 c9
     rw [← he] at c0 c1 c2 c3 c4 c5 c6 hea
     rw [← hv] at c7 c8 c9 hea
     obtain ⟨k1, k2, k3, t1, t2, t3⟩ := ev_facts hea
     obtain ⟨w6, hw6⟩ : ∃ w6, w6 = wr.alloc (.cells (evArr e v) 70) := ⟨_, rfl⟩
     obtain ⟨g5, hg5⟩ : ∃ g, g = wr.heap.size := ⟨_, rfl⟩
     have x6 : Ext wr w6 := by rw [hw6]; exact (Mod.refl _ _).alloc _
     have b5 : EvBox w6 g5 e v := by rw [hw6, hg5]; exact EvBox.of wr e v
     have HEA := Lib.hid (hea.ext x6)
     have HE := Lib.hid (And.intro he hv)
     have HW6 := Lib.hid (And.intro hw6 (And.intro hg5 (And.intro x6 b5)))
     have l5 := hea.fr.sl.run_len (P := Tryz.prog) II.und 3
     have J5 := Lib.hid (hea.fr.sl.run_idx (P := Tryz.prog) II.und II.size .i64)
     obtain ⟨d0, d1, d2, d3, d4, d5, d6, d7, d8, d9⟩ := b5.cells
     clear hlg hea he hv hA hw6 hg5 x6 b5
     go_upto_region 8 with fail
     rw [← HW6.out.1, ← HW6.out.2.1]
     clear c0 c1 c2 c3 c4 c5 c6 c7 c8 c9 t1 t2 t3 i0
     have h8 : (e.fr.length : Int) ≤ 8 := by have := may_small HM.out hlt; rw [← HE.out.1] at this; omega
     have HXS := Lib.hid (HX.out.trans HW6.out.2.2.1)
     go_wp2_with fail
     clear d0 d1 d2 d3 d4 d5 d6 d7 d8 d9
     go_loopw [42] (fun s wq => ∃ i : Nat, i ≤ e.fr.length ∧ s = .int .i64 (i : Int) ∧ (∀ j, j < i → atoQ L l r j = false) ∧ Ext w5 wq) (fun s _ => e.fr.length - (intOf s).toNat)
     case atStart => exact ⟨0, Nat.zero_le _, rfl, fun j hj => absurd hj (Nat.not_lt_zero _), HXS.out⟩
     case round =>
      obtain ⟨i, hi, rfl, hn, xq⟩ := hrel
      have HN2 := Lib.hid hn
      have HXQ := Lib.hid xq
      clear hn
      by_cases hil : i < e.fr.length
      · have hil' : (i : Int) < (e.fr.length : Int) := by omega
        have j0 := J5.out i hil
        simp only [Nat.mul_one] at j0
        have hee : EvAt wr e v := by rw [HE.out.1, HE.out.2]; exact (KE.out _ (HX5.out.trans xq)).1.ev r hlt
        have cF := IntsAt.cell (l := e.fr) (v := v.f) hee.fr hil
        obtain ⟨z, hz⟩ : ∃ x, x = e.fr[i] := ⟨_, rfl⟩
        rw [← hz] at cF
        have hfx : frn L r i = z := by rw [hz]; exact frn_eq HE.out.1 hil
        have hzr := frn_may HM.out hlt (i := i) (by rw [← HE.out.1]; exact hil)
        rw [hfx] at hzr
        have HFX := Lib.hid hfx
        obtain ⟨c0, c1⟩ := (KE.out _ (HX5.out.trans xq)).2.cells
        clear hee hz hfx xq
        rcases hzr with rfl | ⟨a, rfl, har⟩
        · have HNN := Lib.hid (lt_step HN2.out (show atoQ L l r i = false by unfold atoQ; rw [HFX.out]; rfl))
          go_wp2_with fail
          go_roundw
          case rel => exact ⟨i + 1, by omega, by go_num, HNN.out, HXQ.out⟩
          case measure => simp [intOf]; omega
        · have hal : a < L.ev.length := by omega
          have hna : ¬ (a : Int) < 0 := by omega
          have HQA : Hid (atoQ L l r i = anyB (atoP L l r a) L.ev.length) := Lib.hid (by unfold atoQ; rw [HFX.out, Int.toNat_natCast]; simp)
          go_wp2_with fail
          clear c0 c1 cF
          go_loopw [51] (fun s wv => ∃ q : Nat, q ≤ L.ev.length ∧ s = .int .i64 (q : Int) ∧ (∀ j, j < q → atoP L l r a j = false) ∧ Ext w5 wv) (fun s _ => L.ev.length - (intOf s).toNat)
          case atStart => exact ⟨0, Nat.zero_le _, rfl, fun j hj => absurd hj (Nat.not_lt_zero _), HXQ.out⟩
          case round =>
           obtain ⟨q, hq, rfl, hn, xv⟩ := hrel
           have HN3 := Lib.hid hn
           have HXV := Lib.hid xv
           clear hn xv
           by_cases hltq : q < L.ev.length
           · have hltq' : (q : Int) < (L.ev.length : Int) := by omega
             have ia := IA.out a hal
             have iq := IA.out q hltq
             have ir := IA.out r hlt
             simp only [Nat.mul_one] at ia iq ir
             have i0 := HI.out q hltq
             have hlg := (KE.out _ (HX5.out.trans HXV.out)).1
             obtain ⟨c0, c1, c2, c3, c4, c5, c6, c7, c8, c9⟩ := hlg.cells hltq
             have hxa := hlg.ev q hltq
             obtain ⟨x, hxe⟩ : ∃ x, x = evn L.ev q := ⟨_, rfl⟩
             obtain ⟨u, hue⟩ : ∃ u, u = V q := ⟨_, rfl⟩
             obtain ⟨A, hA⟩ : ∃ A, A = at_ ve (q * 10) := ⟨_, rfl⟩
             rw [← hA] at i0 c0 c1 c2 c3 c4 c5 c6 c7 c8 c9
             rw [← hxe] at c0 c1 c2 c3 c4 c5 c6 hxa
             rw [← hue] at c7 c8 c9 hxa
             obtain ⟨kk1, kk2, kk3, t1, t2, t3⟩ := ev_facts hxa
             obtain ⟨w8, hw8⟩ : ∃ w8, w8 = wr.alloc (.cells (evArr x u) 70) := ⟨_, rfl⟩
             obtain ⟨g8, hg8⟩ : ∃ g, g = wr.heap.size := ⟨_, rfl⟩
             have x8 : Ext wr w8 := by rw [hw8]; exact (Mod.refl _ _).alloc _
             have b8 : EvBox w8 g8 x u := by rw [hw8, hg8]; exact EvBox.of wr x u
             have HEX := Lib.hid (hxa.ext x8)
             have HEQ := Lib.hid (And.intro hxe hue)
             have HW8 := Lib.hid (And.intro hw8 (And.intro hg8 (And.intro x8 b8)))
             have l8 := hxa.fr.sl.run_len (P := Tryz.prog) II.und 3
             have J8 := Lib.hid (hxa.fr.sl.run_idx (P := Tryz.prog) II.und II.size .i64)
             obtain ⟨m0, m1, m2, m3, m4, m5, m6, m7, m8, m9⟩ := b8.cells
             clear hlg hxa hxe hue hA hw8 hg8 x8 b8
             go_upto_region 15 with fail
             rw [← HW8.out.1, ← HW8.out.2.1]
             clear c0 c1 c2 c3 c4 c5 c6 c7 c8 c9 t1 t2 t3 i0
             obtain ⟨S, hS⟩ : ∃ S, S = x.seq := ⟨_, rfl⟩
             obtain ⟨WR, hWR⟩ : ∃ S, S = wrsB x := ⟨_, rfl⟩
             obtain ⟨pw, hpw⟩ : ∃ z, z = posI l a := ⟨_, rfl⟩
             obtain ⟨pv, hpv⟩ : ∃ z, z = posI l q := ⟨_, rfl⟩
             obtain ⟨pr, hpr⟩ : ∃ z, z = posI l r := ⟨_, rfl⟩
             obtain ⟨PB, hPB⟩ : ∃ z, z = pastB L a q r := ⟨_, rfl⟩
             have HAP : Hid (atoP L l r a q = (WR && S && decide (q ≠ a) && decide (q ≠ r) && decide (pw < pv) && decide (pv < pr) && PB)) := Lib.hid (by rw [hWR, hS, hpw, hpv, hpr, hPB, HEQ.out.1]; rfl)
             have HWR := Lib.hid hWR.symm
             have HPB := Lib.hid hPB.symm
             have HVX : Hid (∀ w', Ext w8 w' → EvAt w' ⟨x.ag, x.kind, S, x.nt, x.blk, x.at_, x.size, x.rd, x.wr, x.fr⟩ u) := Lib.hid fun w' z => by rw [hS]; exact HEX.out.ext z
             have KF : Hid (∀ w', Ext w8 w' → w'.cell? ⟨g0, 0, none⟩ = some ve ∧ w'.cell? ⟨g0, 1, none⟩ = some vp ∧ w'.cell? ⟨g8, 0, none⟩ = some (.int .i64 (x).ag) ∧ w'.cell? ⟨g8, 1, none⟩ = some (.int .i64 (x).kind) ∧ w'.cell? ⟨g8, 2, none⟩ = some (.bool S) ∧ w'.cell? ⟨g8, 3, none⟩ = some (.bool (x).nt) ∧ w'.cell? ⟨g8, 4, none⟩ = some (.int .i64 (x).blk) ∧ w'.cell? ⟨g8, 5, none⟩ = some (.int .i64 (x).at_) ∧ w'.cell? ⟨g8, 6, none⟩ = some (.int .i64 (x).size) ∧ w'.cell? ⟨g8, 7, none⟩ = some u.r ∧ w'.cell? ⟨g8, 8, none⟩ = some u.w ∧ w'.cell? ⟨g8, 9, none⟩ = some u.f ∧ w'.cell? (at_ av a) = some (.int .i64 pw) ∧ w'.cell? (at_ av q) = some (.int .i64 pv) ∧ w'.cell? (at_ av r) = some (.int .i64 pr)) := Lib.hid fun w' z => by
              have h1 := (HW8.out.2.2.2.ext z).cells
              rw [← hS] at h1
              obtain ⟨a0, a1, a2, a3, a4, a5, a6, a7, a8, a9⟩ := h1
              have h2 := HXV.out.trans (HW8.out.2.2.1.trans z)
              have h3 := HAV.out _ h2
              exact ⟨(KE.out _ (HX5.out.trans h2)).2.cells.1, (KE.out _ (HX5.out.trans h2)).2.cells.2, a0, a1, a2, a3, a4, a5, a6, a7, a8, a9, by rw [hpw]; exact int_cell h3 hal, by rw [hpv]; exact int_cell h3 hltq, by rw [hpr]; exact int_cell h3 hlt⟩
             have HHIT : Hid (atoP L l r a q = true → (r : Int) = atoI L l) := Lib.hid fun hh => by
              rw [HC.out, fstN_hit hlt HN.out (anyB_iff.2 ⟨i, by rw [← HE.out.1]; exact hil, by rw [HQA.out]; exact anyB_iff.2 ⟨q, hltq, hh⟩⟩)]
             clear hS hWR hpw hpv hpr hPB m0 m1 m2 m3 m4 m5 m6 m7 m8 m9
             cases WR with
             | false =>
              have HNO : Hid (atoP L l r a q = false) := Lib.hid (by rw [HAP.out]; rfl)
              refine wp_region_plan [(0, true), (1, false), (2, true), (3, true), (4, true), (5, true), (6, true), (7, true), (8, true), (9, true), (10, true), (11, true), (12, true), (13, true), (14, true), (15, true), (16, true), (17, true), (18, true), (19, true), (20, true), (21, true), (22, true), (23, true), (24, true), (25, true), (26, true), (27, true), (28, true), (29, true), (30, true), (31, true), (32, true), (33, true), (34, true), (35, true), (36, true), (37, true), (38, true), (39, true), (40, true), (41, true), (42, true), (43, true), (44, true), (45, false), (46, true)] (fun w' => w'.cell? ⟨g0, 0, none⟩ = some ve ∧ w'.cell? ⟨g0, 1, none⟩ = some vp ∧ w'.cell? ⟨g8, 0, none⟩ = some (.int .i64 (x).ag) ∧ w'.cell? ⟨g8, 1, none⟩ = some (.int .i64 (x).kind) ∧ w'.cell? ⟨g8, 2, none⟩ = some (.bool S) ∧ w'.cell? ⟨g8, 3, none⟩ = some (.bool (x).nt) ∧ w'.cell? ⟨g8, 4, none⟩ = some (.int .i64 (x).blk) ∧ w'.cell? ⟨g8, 5, none⟩ = some (.int .i64 (x).at_) ∧ w'.cell? ⟨g8, 6, none⟩ = some (.int .i64 (x).size) ∧ w'.cell? ⟨g8, 7, none⟩ = some u.r ∧ w'.cell? ⟨g8, 8, none⟩ = some u.w ∧ w'.cell? ⟨g8, 9, none⟩ = some u.f ∧ w'.cell? (at_ av a) = some (.int .i64 pw) ∧ w'.cell? (at_ av q) = some (.int .i64 pv) ∧ w'.cell? (at_ av r) = some (.int .i64 pr)) (by kernel_rfl) (by kernel_rfl) (by kernel_rfl) (fun _ d _ _ _ h => by cases d <;> exact h) (KF.out _ (Mod.drew (Mod.refl _ _))) ?_
              simp only [planL, getO]
              (refine plan_take (v := ?_) (by rfl) (fun wS hS => ?_) ?_; rotate_left; (focus ((try dsimp only at hS); go_simp; (try with_reducible rfl); done)); (try simp only [Act.put, List.setIfInBounds_toArray, List.set_cons_zero, List.set_cons_succ]))
              refine plan_call (fun K hK => ?_)
              go_simp
              go_at_call 129; refine (writes_any _ ⟨x.ag, x.kind, S, x.nt, x.blk, x.at_, x.size, x.rd, x.wr, x.fr⟩ u (HVX.out _ (Mod.drew (Mod.refl _ _)))).mono ?_; rintro en w9 ⟨rfl, y9⟩; have E9 : Ext w8 w9 := Mod.trans (Mod.drew (Mod.refl _ _)) y9; rw [show wrsB ⟨x.ag, x.kind, S, x.nt, x.blk, x.at_, x.size, x.rd, x.wr, x.fr⟩ = false from HWR.out]
              refine hK.out _ _ (KF.out _ E9) ?_
              clear hK K
              (try simp only [Act.put, List.setIfInBounds_toArray, List.set_cons_zero, List.set_cons_succ])
              (refine plan_take (v := ?_) (by rfl) (fun wS hS => ?_) ?_; rotate_left; (focus ((try dsimp only at hS); go_simp; (try with_reducible rfl); done)); (try simp only [Act.put, List.setIfInBounds_toArray, List.set_cons_zero, List.set_cons_succ]))
              iterate 2 (refine plan_skip (by rfl) ?_; (try simp only [Act.put, List.setIfInBounds_toArray, List.set_cons_zero, List.set_cons_succ]))
              iterate 2 (refine plan_take (v := ?_) (by rfl) (fun wS hS => ?_) ?_; rotate_left; (focus ((try dsimp only at hS); go_simp; (try with_reducible rfl); done)); (try simp only [Act.put, List.setIfInBounds_toArray, List.set_cons_zero, List.set_cons_succ]))
              iterate 3 (refine plan_skip (by rfl) ?_; (try simp only [Act.put, List.setIfInBounds_toArray, List.set_cons_zero, List.set_cons_succ]))
              iterate 2 (refine plan_take (v := ?_) (by rfl) (fun wS hS => ?_) ?_; rotate_left; (focus ((try dsimp only at hS); go_simp; (try with_reducible rfl); done)); (try simp only [Act.put, List.setIfInBounds_toArray, List.set_cons_zero, List.set_cons_succ]))
              iterate 3 (refine plan_skip (by rfl) ?_; (try simp only [Act.put, List.setIfInBounds_toArray, List.set_cons_zero, List.set_cons_succ]))
              iterate 2 (refine plan_take (v := ?_) (by rfl) (fun wS hS => ?_) ?_; rotate_left; (focus ((try dsimp only at hS); go_simp; (try with_reducible rfl); done)); (try simp only [Act.put, List.setIfInBounds_toArray, List.set_cons_zero, List.set_cons_succ]))
              iterate 9 (refine plan_skip (by rfl) ?_; (try simp only [Act.put, List.setIfInBounds_toArray, List.set_cons_zero, List.set_cons_succ]))
              iterate 2 (refine plan_take (v := ?_) (by rfl) (fun wS hS => ?_) ?_; rotate_left; (focus ((try dsimp only at hS); go_simp; (try with_reducible rfl); done)); (try simp only [Act.put, List.setIfInBounds_toArray, List.set_cons_zero, List.set_cons_succ]))
              iterate 9 (refine plan_skip (by rfl) ?_; (try simp only [Act.put, List.setIfInBounds_toArray, List.set_cons_zero, List.set_cons_succ]))
              iterate 2 (refine plan_take (v := ?_) (by rfl) (fun wS hS => ?_) ?_; rotate_left; (focus ((try dsimp only at hS); go_simp; (try with_reducible rfl); done)); (try simp only [Act.put, List.setIfInBounds_toArray, List.set_cons_zero, List.set_cons_succ]))
              iterate 7 (refine plan_skip (by rfl) ?_; (try simp only [Act.put, List.setIfInBounds_toArray, List.set_cons_zero, List.set_cons_succ]))
              (refine plan_take (v := ?_) (by rfl) (fun wS hS => ?_) ?_; rotate_left; (focus ((try dsimp only at hS); go_simp; (try with_reducible rfl); done)); (try simp only [Act.put, List.setIfInBounds_toArray, List.set_cons_zero, List.set_cons_succ]))
              refine plan_nil ?_
              have HNN := Lib.hid (lt_step HN3.out HNO.out)
              go_wp2_with fail
              go_roundw
              case rel => exact ⟨q + 1, by omega, by go_num, HNN.out, HXV.out.trans (HW8.out.2.2.1.trans E9)⟩
              case measure => simp [intOf]; omega
             | true =>
              cases S with
              | false =>
               have HNO : Hid (atoP L l r a q = false) := Lib.hid (by rw [HAP.out]; rfl)
               refine wp_region_plan [(0, true), (1, false), (2, true), (3, true), (4, true), (5, true), (6, true), (7, true), (8, true), (9, true), (10, true), (11, true), (12, true), (13, true), (14, true), (15, true), (16, true), (17, true), (18, true), (19, true), (20, true), (21, true), (22, true), (23, true), (24, true), (25, true), (26, true), (27, true), (28, true), (29, true), (30, true), (31, true), (32, true), (33, true), (34, true), (35, true), (36, true), (37, true), (38, true), (39, true), (40, true), (41, true), (42, true), (43, true), (44, true), (45, false), (46, true)] (fun w' => w'.cell? ⟨g0, 0, none⟩ = some ve ∧ w'.cell? ⟨g0, 1, none⟩ = some vp ∧ w'.cell? ⟨g8, 0, none⟩ = some (.int .i64 (x).ag) ∧ w'.cell? ⟨g8, 1, none⟩ = some (.int .i64 (x).kind) ∧ w'.cell? ⟨g8, 2, none⟩ = some (.bool false) ∧ w'.cell? ⟨g8, 3, none⟩ = some (.bool (x).nt) ∧ w'.cell? ⟨g8, 4, none⟩ = some (.int .i64 (x).blk) ∧ w'.cell? ⟨g8, 5, none⟩ = some (.int .i64 (x).at_) ∧ w'.cell? ⟨g8, 6, none⟩ = some (.int .i64 (x).size) ∧ w'.cell? ⟨g8, 7, none⟩ = some u.r ∧ w'.cell? ⟨g8, 8, none⟩ = some u.w ∧ w'.cell? ⟨g8, 9, none⟩ = some u.f ∧ w'.cell? (at_ av a) = some (.int .i64 pw) ∧ w'.cell? (at_ av q) = some (.int .i64 pv) ∧ w'.cell? (at_ av r) = some (.int .i64 pr)) (by kernel_rfl) (by kernel_rfl) (by kernel_rfl) (fun _ d _ _ _ h => by cases d <;> exact h) (KF.out _ (Mod.drew (Mod.refl _ _))) ?_
               simp only [planL, getO]
               (refine plan_take (v := ?_) (by rfl) (fun wS hS => ?_) ?_; rotate_left; (focus ((try dsimp only at hS); go_simp; (try with_reducible rfl); done)); (try simp only [Act.put, List.setIfInBounds_toArray, List.set_cons_zero, List.set_cons_succ]))
               refine plan_call (fun K hK => ?_)
               go_simp
               go_at_call 129; refine (writes_any _ ⟨x.ag, x.kind, false, x.nt, x.blk, x.at_, x.size, x.rd, x.wr, x.fr⟩ u (HVX.out _ (Mod.drew (Mod.refl _ _)))).mono ?_; rintro en w9 ⟨rfl, y9⟩; have E9 : Ext w8 w9 := Mod.trans (Mod.drew (Mod.refl _ _)) y9; rw [show wrsB ⟨x.ag, x.kind, false, x.nt, x.blk, x.at_, x.size, x.rd, x.wr, x.fr⟩ = true from HWR.out]
               refine hK.out _ _ (KF.out _ E9) ?_
               clear hK K
               (try simp only [Act.put, List.setIfInBounds_toArray, List.set_cons_zero, List.set_cons_succ])
               iterate 5 (refine plan_take (v := ?_) (by rfl) (fun wS hS => ?_) ?_; rotate_left; (focus ((try dsimp only at hS); go_simp; (try with_reducible rfl); done)); (try simp only [Act.put, List.setIfInBounds_toArray, List.set_cons_zero, List.set_cons_succ]))
               iterate 3 (refine plan_skip (by rfl) ?_; (try simp only [Act.put, List.setIfInBounds_toArray, List.set_cons_zero, List.set_cons_succ]))
               iterate 2 (refine plan_take (v := ?_) (by rfl) (fun wS hS => ?_) ?_; rotate_left; (focus ((try dsimp only at hS); go_simp; (try with_reducible rfl); done)); (try simp only [Act.put, List.setIfInBounds_toArray, List.set_cons_zero, List.set_cons_succ]))
               iterate 3 (refine plan_skip (by rfl) ?_; (try simp only [Act.put, List.setIfInBounds_toArray, List.set_cons_zero, List.set_cons_succ]))
               iterate 2 (refine plan_take (v := ?_) (by rfl) (fun wS hS => ?_) ?_; rotate_left; (focus ((try dsimp only at hS); go_simp; (try with_reducible rfl); done)); (try simp only [Act.put, List.setIfInBounds_toArray, List.set_cons_zero, List.set_cons_succ]))
               iterate 9 (refine plan_skip (by rfl) ?_; (try simp only [Act.put, List.setIfInBounds_toArray, List.set_cons_zero, List.set_cons_succ]))
               iterate 2 (refine plan_take (v := ?_) (by rfl) (fun wS hS => ?_) ?_; rotate_left; (focus ((try dsimp only at hS); go_simp; (try with_reducible rfl); done)); (try simp only [Act.put, List.setIfInBounds_toArray, List.set_cons_zero, List.set_cons_succ]))
               iterate 9 (refine plan_skip (by rfl) ?_; (try simp only [Act.put, List.setIfInBounds_toArray, List.set_cons_zero, List.set_cons_succ]))
               iterate 2 (refine plan_take (v := ?_) (by rfl) (fun wS hS => ?_) ?_; rotate_left; (focus ((try dsimp only at hS); go_simp; (try with_reducible rfl); done)); (try simp only [Act.put, List.setIfInBounds_toArray, List.set_cons_zero, List.set_cons_succ]))
               iterate 7 (refine plan_skip (by rfl) ?_; (try simp only [Act.put, List.setIfInBounds_toArray, List.set_cons_zero, List.set_cons_succ]))
               (refine plan_take (v := ?_) (by rfl) (fun wS hS => ?_) ?_; rotate_left; (focus ((try dsimp only at hS); go_simp; (try with_reducible rfl); done)); (try simp only [Act.put, List.setIfInBounds_toArray, List.set_cons_zero, List.set_cons_succ]))
               refine plan_nil ?_
               have HNN := Lib.hid (lt_step HN3.out HNO.out)
               go_wp2_with fail
               go_roundw
               case rel => exact ⟨q + 1, by omega, by go_num, HNN.out, HXV.out.trans (HW8.out.2.2.1.trans E9)⟩
               case measure => simp [intOf]; omega
              | true =>
               by_cases hqa : q = a
               · have hc1 : ((q : Int) != (a : Int)) = false := by simp [hqa]
                 have HNO : Hid (atoP L l r a q = false) := Lib.hid (by rw [HAP.out]; simp [hqa])
                 clear hqa
                 refine wp_region_plan [(0, true), (1, false), (2, true), (3, true), (4, true), (5, true), (6, true), (7, true), (8, true), (9, true), (10, true), (11, true), (12, true), (13, true), (14, true), (15, true), (16, true), (17, true), (18, true), (19, true), (20, true), (21, true), (22, true), (23, true), (24, true), (25, true), (26, true), (27, true), (28, true), (29, true), (30, true), (31, true), (32, true), (33, true), (34, true), (35, true), (36, true), (37, true), (38, true), (39, true), (40, true), (41, true), (42, true), (43, true), (44, true), (45, false), (46, true)] (fun w' => w'.cell? ⟨g0, 0, none⟩ = some ve ∧ w'.cell? ⟨g0, 1, none⟩ = some vp ∧ w'.cell? ⟨g8, 0, none⟩ = some (.int .i64 (x).ag) ∧ w'.cell? ⟨g8, 1, none⟩ = some (.int .i64 (x).kind) ∧ w'.cell? ⟨g8, 2, none⟩ = some (.bool true) ∧ w'.cell? ⟨g8, 3, none⟩ = some (.bool (x).nt) ∧ w'.cell? ⟨g8, 4, none⟩ = some (.int .i64 (x).blk) ∧ w'.cell? ⟨g8, 5, none⟩ = some (.int .i64 (x).at_) ∧ w'.cell? ⟨g8, 6, none⟩ = some (.int .i64 (x).size) ∧ w'.cell? ⟨g8, 7, none⟩ = some u.r ∧ w'.cell? ⟨g8, 8, none⟩ = some u.w ∧ w'.cell? ⟨g8, 9, none⟩ = some u.f ∧ w'.cell? (at_ av a) = some (.int .i64 pw) ∧ w'.cell? (at_ av q) = some (.int .i64 pv) ∧ w'.cell? (at_ av r) = some (.int .i64 pr)) (by kernel_rfl) (by kernel_rfl) (by kernel_rfl) (fun _ d _ _ _ h => by cases d <;> exact h) (KF.out _ (Mod.drew (Mod.refl _ _))) ?_
                 simp only [planL, getO]
                 (refine plan_take (v := ?_) (by rfl) (fun wS hS => ?_) ?_; rotate_left; (focus ((try dsimp only at hS); go_simp; (try with_reducible rfl); done)); (try simp only [Act.put, List.setIfInBounds_toArray, List.set_cons_zero, List.set_cons_succ]))
                 refine plan_call (fun K hK => ?_)
                 go_simp
                 go_at_call 129; refine (writes_any _ ⟨x.ag, x.kind, true, x.nt, x.blk, x.at_, x.size, x.rd, x.wr, x.fr⟩ u (HVX.out _ (Mod.drew (Mod.refl _ _)))).mono ?_; rintro en w9 ⟨rfl, y9⟩; have E9 : Ext w8 w9 := Mod.trans (Mod.drew (Mod.refl _ _)) y9; rw [show wrsB ⟨x.ag, x.kind, true, x.nt, x.blk, x.at_, x.size, x.rd, x.wr, x.fr⟩ = true from HWR.out]
                 refine hK.out _ _ (KF.out _ E9) ?_
                 clear hK K
                 (try simp only [Act.put, List.setIfInBounds_toArray, List.set_cons_zero, List.set_cons_succ])
                 iterate 10 (refine plan_take (v := ?_) (by rfl) (fun wS hS => ?_) ?_; rotate_left; (focus ((try dsimp only at hS); go_simp; (try with_reducible rfl); done)); (try simp only [Act.put, List.setIfInBounds_toArray, List.set_cons_zero, List.set_cons_succ]))
                 iterate 3 (refine plan_skip (by rfl) ?_; (try simp only [Act.put, List.setIfInBounds_toArray, List.set_cons_zero, List.set_cons_succ]))
                 iterate 2 (refine plan_take (v := ?_) (by rfl) (fun wS hS => ?_) ?_; rotate_left; (focus ((try dsimp only at hS); go_simp; (try with_reducible rfl); done)); (try simp only [Act.put, List.setIfInBounds_toArray, List.set_cons_zero, List.set_cons_succ]))
                 iterate 9 (refine plan_skip (by rfl) ?_; (try simp only [Act.put, List.setIfInBounds_toArray, List.set_cons_zero, List.set_cons_succ]))
                 iterate 2 (refine plan_take (v := ?_) (by rfl) (fun wS hS => ?_) ?_; rotate_left; (focus ((try dsimp only at hS); go_simp; (try with_reducible rfl); done)); (try simp only [Act.put, List.setIfInBounds_toArray, List.set_cons_zero, List.set_cons_succ]))
                 iterate 9 (refine plan_skip (by rfl) ?_; (try simp only [Act.put, List.setIfInBounds_toArray, List.set_cons_zero, List.set_cons_succ]))
                 iterate 2 (refine plan_take (v := ?_) (by rfl) (fun wS hS => ?_) ?_; rotate_left; (focus ((try dsimp only at hS); go_simp; (try with_reducible rfl); done)); (try simp only [Act.put, List.setIfInBounds_toArray, List.set_cons_zero, List.set_cons_succ]))
                 iterate 7 (refine plan_skip (by rfl) ?_; (try simp only [Act.put, List.setIfInBounds_toArray, List.set_cons_zero, List.set_cons_succ]))
                 (refine plan_take (v := ?_) (by rfl) (fun wS hS => ?_) ?_; rotate_left; (focus ((try dsimp only at hS); go_simp; (try with_reducible rfl); done)); (try simp only [Act.put, List.setIfInBounds_toArray, List.set_cons_zero, List.set_cons_succ]))
                 refine plan_nil ?_
                 have HNN := Lib.hid (lt_step HN3.out HNO.out)
                 go_wp2_with fail
                 go_roundw
                 case rel => exact ⟨q + 1, by omega, by go_num, HNN.out, HXV.out.trans (HW8.out.2.2.1.trans E9)⟩
                 case measure => simp [intOf]; omega
               · have hc1 : ((q : Int) != (a : Int)) = true := by rw [bne_iff_ne]; omega
                 by_cases hqr : q = r
                 · have hc2 : ((q : Int) != (r : Int)) = false := by simp [hqr]
                   have HNO : Hid (atoP L l r a q = false) := Lib.hid (by rw [HAP.out]; simp [hqr])
                   clear hqa hqr
                   refine wp_region_plan [(0, true), (1, false), (2, true), (3, true), (4, true), (5, true), (6, true), (7, true), (8, true), (9, true), (10, true), (11, true), (12, true), (13, true), (14, true), (15, true), (16, true), (17, true), (18, true), (19, true), (20, true), (21, true), (22, true), (23, true), (24, true), (25, true), (26, true), (27, true), (28, true), (29, true), (30, true), (31, true), (32, true), (33, true), (34, true), (35, true), (36, true), (37, true), (38, true), (39, true), (40, true), (41, true), (42, true), (43, true), (44, true), (45, false), (46, true)] (fun w' => w'.cell? ⟨g0, 0, none⟩ = some ve ∧ w'.cell? ⟨g0, 1, none⟩ = some vp ∧ w'.cell? ⟨g8, 0, none⟩ = some (.int .i64 (x).ag) ∧ w'.cell? ⟨g8, 1, none⟩ = some (.int .i64 (x).kind) ∧ w'.cell? ⟨g8, 2, none⟩ = some (.bool true) ∧ w'.cell? ⟨g8, 3, none⟩ = some (.bool (x).nt) ∧ w'.cell? ⟨g8, 4, none⟩ = some (.int .i64 (x).blk) ∧ w'.cell? ⟨g8, 5, none⟩ = some (.int .i64 (x).at_) ∧ w'.cell? ⟨g8, 6, none⟩ = some (.int .i64 (x).size) ∧ w'.cell? ⟨g8, 7, none⟩ = some u.r ∧ w'.cell? ⟨g8, 8, none⟩ = some u.w ∧ w'.cell? ⟨g8, 9, none⟩ = some u.f ∧ w'.cell? (at_ av a) = some (.int .i64 pw) ∧ w'.cell? (at_ av q) = some (.int .i64 pv) ∧ w'.cell? (at_ av r) = some (.int .i64 pr)) (by kernel_rfl) (by kernel_rfl) (by kernel_rfl) (fun _ d _ _ _ h => by cases d <;> exact h) (KF.out _ (Mod.drew (Mod.refl _ _))) ?_
                   simp only [planL, getO]
                   (refine plan_take (v := ?_) (by rfl) (fun wS hS => ?_) ?_; rotate_left; (focus ((try dsimp only at hS); go_simp; (try with_reducible rfl); done)); (try simp only [Act.put, List.setIfInBounds_toArray, List.set_cons_zero, List.set_cons_succ]))
                   refine plan_call (fun K hK => ?_)
                   go_simp
                   go_at_call 129; refine (writes_any _ ⟨x.ag, x.kind, true, x.nt, x.blk, x.at_, x.size, x.rd, x.wr, x.fr⟩ u (HVX.out _ (Mod.drew (Mod.refl _ _)))).mono ?_; rintro en w9 ⟨rfl, y9⟩; have E9 : Ext w8 w9 := Mod.trans (Mod.drew (Mod.refl _ _)) y9; rw [show wrsB ⟨x.ag, x.kind, true, x.nt, x.blk, x.at_, x.size, x.rd, x.wr, x.fr⟩ = true from HWR.out]
                   refine hK.out _ _ (KF.out _ E9) ?_
                   clear hK K
                   (try simp only [Act.put, List.setIfInBounds_toArray, List.set_cons_zero, List.set_cons_succ])
                   iterate 15 (refine plan_take (v := ?_) (by rfl) (fun wS hS => ?_) ?_; rotate_left; (focus ((try dsimp only at hS); go_simp; (try with_reducible rfl); done)); (try simp only [Act.put, List.setIfInBounds_toArray, List.set_cons_zero, List.set_cons_succ]))
                   iterate 9 (refine plan_skip (by rfl) ?_; (try simp only [Act.put, List.setIfInBounds_toArray, List.set_cons_zero, List.set_cons_succ]))
                   iterate 2 (refine plan_take (v := ?_) (by rfl) (fun wS hS => ?_) ?_; rotate_left; (focus ((try dsimp only at hS); go_simp; (try with_reducible rfl); done)); (try simp only [Act.put, List.setIfInBounds_toArray, List.set_cons_zero, List.set_cons_succ]))
                   iterate 9 (refine plan_skip (by rfl) ?_; (try simp only [Act.put, List.setIfInBounds_toArray, List.set_cons_zero, List.set_cons_succ]))
                   iterate 2 (refine plan_take (v := ?_) (by rfl) (fun wS hS => ?_) ?_; rotate_left; (focus ((try dsimp only at hS); go_simp; (try with_reducible rfl); done)); (try simp only [Act.put, List.setIfInBounds_toArray, List.set_cons_zero, List.set_cons_succ]))
                   iterate 7 (refine plan_skip (by rfl) ?_; (try simp only [Act.put, List.setIfInBounds_toArray, List.set_cons_zero, List.set_cons_succ]))
                   (refine plan_take (v := ?_) (by rfl) (fun wS hS => ?_) ?_; rotate_left; (focus ((try dsimp only at hS); go_simp; (try with_reducible rfl); done)); (try simp only [Act.put, List.setIfInBounds_toArray, List.set_cons_zero, List.set_cons_succ]))
                   refine plan_nil ?_
                   have HNN := Lib.hid (lt_step HN3.out HNO.out)
                   go_wp2_with fail
                   go_roundw
                   case rel => exact ⟨q + 1, by omega, by go_num, HNN.out, HXV.out.trans (HW8.out.2.2.1.trans E9)⟩
                   case measure => simp [intOf]; omega
                 · have hc2 : ((q : Int) != (r : Int)) = true := by rw [bne_iff_ne]; omega
                   by_cases hpw : pw < pv
                   · by_cases hpv : pv < pr
                     · have HAY : Hid (atoP L l r a q = PB) := Lib.hid (by rw [HAP.out]; simp [hqa, hqr, hpw, hpv])
                       clear hqa hqr
                       refine wp_region_plan [(0, true), (1, false), (2, true), (3, true), (4, true), (5, true), (6, true), (7, true), (8, true), (9, true), (10, true), (11, true), (12, true), (13, true), (14, true), (15, true), (16, true), (17, true), (18, true), (19, true), (20, true), (21, true), (22, true), (23, true), (24, true), (25, true), (26, true), (27, true), (28, true), (29, true), (30, true), (31, true), (32, true), (33, true), (34, true), (35, true), (36, true), (37, true), (38, true), (39, true), (40, true), (41, true), (42, true), (43, true), (44, true), (45, false), (46, true)] (fun w' => w'.cell? ⟨g0, 0, none⟩ = some ve ∧ w'.cell? ⟨g0, 1, none⟩ = some vp ∧ w'.cell? ⟨g8, 0, none⟩ = some (.int .i64 (x).ag) ∧ w'.cell? ⟨g8, 1, none⟩ = some (.int .i64 (x).kind) ∧ w'.cell? ⟨g8, 2, none⟩ = some (.bool true) ∧ w'.cell? ⟨g8, 3, none⟩ = some (.bool (x).nt) ∧ w'.cell? ⟨g8, 4, none⟩ = some (.int .i64 (x).blk) ∧ w'.cell? ⟨g8, 5, none⟩ = some (.int .i64 (x).at_) ∧ w'.cell? ⟨g8, 6, none⟩ = some (.int .i64 (x).size) ∧ w'.cell? ⟨g8, 7, none⟩ = some u.r ∧ w'.cell? ⟨g8, 8, none⟩ = some u.w ∧ w'.cell? ⟨g8, 9, none⟩ = some u.f ∧ w'.cell? (at_ av a) = some (.int .i64 pw) ∧ w'.cell? (at_ av q) = some (.int .i64 pv) ∧ w'.cell? (at_ av r) = some (.int .i64 pr)) (by kernel_rfl) (by kernel_rfl) (by kernel_rfl) (fun _ d _ _ _ h => by cases d <;> exact h) (KF.out _ (Mod.drew (Mod.refl _ _))) ?_
                       simp only [planL, getO]
                       (refine plan_take (v := ?_) (by rfl) (fun wS hS => ?_) ?_; rotate_left; (focus ((try dsimp only at hS); go_simp; (try with_reducible rfl); done)); (try simp only [Act.put, List.setIfInBounds_toArray, List.set_cons_zero, List.set_cons_succ]))
                       refine plan_call (fun K hK => ?_)
                       go_simp
                       go_at_call 129; refine (writes_any _ ⟨x.ag, x.kind, true, x.nt, x.blk, x.at_, x.size, x.rd, x.wr, x.fr⟩ u (HVX.out _ (Mod.drew (Mod.refl _ _)))).mono ?_; rintro en w9 ⟨rfl, y9⟩; have E9 : Ext w8 w9 := Mod.trans (Mod.drew (Mod.refl _ _)) y9; rw [show wrsB ⟨x.ag, x.kind, true, x.nt, x.blk, x.at_, x.size, x.rd, x.wr, x.fr⟩ = true from HWR.out]
                       refine hK.out _ _ (KF.out _ E9) ?_
                       clear hK K
                       (try simp only [Act.put, List.setIfInBounds_toArray, List.set_cons_zero, List.set_cons_succ])
                       iterate 43 (refine plan_take (v := ?_) (by rfl) (fun wS hS => ?_) ?_; rotate_left; (focus ((try dsimp only at hS); go_simp; (try with_reducible rfl); done)); (try simp only [Act.put, List.setIfInBounds_toArray, List.set_cons_zero, List.set_cons_succ]))
                       refine plan_call (fun K hK => ?_)
                       go_simp
                       go_at_call 138; refine (past_any _ ve vp V L (KE.out _ (HX5.out.trans (HXV.out.trans (HW8.out.2.2.1.trans E9)))).1 _ _ (HR4.out.ext (y5.trans (HXV.out.trans (HW8.out.2.2.1.trans E9)))) (HR5.out.ext (HXV.out.trans (HW8.out.2.2.1.trans E9))) a q r hal hltq hlt).mono ?_; rintro en wa ⟨rfl, ya⟩; have Ea : Ext w8 wa := Mod.trans E9 ya; rw [HPB.out]
                       refine hK.out _ _ (KF.out _ Ea) ?_
                       clear hK K
                       (try simp only [Act.put, List.setIfInBounds_toArray, List.set_cons_zero, List.set_cons_succ])
                       (refine plan_take (v := ?_) (by rfl) (fun wS hS => ?_) ?_; rotate_left; (focus ((try dsimp only at hS); go_simp; (try with_reducible rfl); done)); (try simp only [Act.put, List.setIfInBounds_toArray, List.set_cons_zero, List.set_cons_succ]))
                       refine plan_nil ?_
                       cases PB with
                       | false =>
                        have HNO : Hid (atoP L l r a q = false) := Lib.hid HAY.out
                        have HNN := Lib.hid (lt_step HN3.out HNO.out)
                        go_wp2_with fail
                        go_roundw
                        case rel => exact ⟨q + 1, by omega, by go_num, HNN.out, HXV.out.trans (HW8.out.2.2.1.trans Ea)⟩
                        case measure => simp [intOf]; omega
                       | true =>
                        have HYY : Hid ((r : Int) = atoI L l) := Lib.hid (HHIT.out HAY.out)
                        go_wp2_with fail
                        go_ret
                        exact ⟨by rw [← HYY.out]; rfl, HW.out.2.2.trans (HX5.out.trans (HXV.out.trans (HW8.out.2.2.1.trans Ea)))⟩
                     · have HNO : Hid (atoP L l r a q = false) := Lib.hid (by rw [HAP.out]; simp [hpv])
                       clear hqa hqr
                       refine wp_region_plan [(0, true), (1, false), (2, true), (3, true), (4, true), (5, true), (6, true), (7, true), (8, true), (9, true), (10, true), (11, true), (12, true), (13, true), (14, true), (15, true), (16, true), (17, true), (18, true), (19, true), (20, true), (21, true), (22, true), (23, true), (24, true), (25, true), (26, true), (27, true), (28, true), (29, true), (30, true), (31, true), (32, true), (33, true), (34, true), (35, true), (36, true), (37, true), (38, true), (39, true), (40, true), (41, true), (42, true), (43, true), (44, true), (45, false), (46, true)] (fun w' => w'.cell? ⟨g0, 0, none⟩ = some ve ∧ w'.cell? ⟨g0, 1, none⟩ = some vp ∧ w'.cell? ⟨g8, 0, none⟩ = some (.int .i64 (x).ag) ∧ w'.cell? ⟨g8, 1, none⟩ = some (.int .i64 (x).kind) ∧ w'.cell? ⟨g8, 2, none⟩ = some (.bool true) ∧ w'.cell? ⟨g8, 3, none⟩ = some (.bool (x).nt) ∧ w'.cell? ⟨g8, 4, none⟩ = some (.int .i64 (x).blk) ∧ w'.cell? ⟨g8, 5, none⟩ = some (.int .i64 (x).at_) ∧ w'.cell? ⟨g8, 6, none⟩ = some (.int .i64 (x).size) ∧ w'.cell? ⟨g8, 7, none⟩ = some u.r ∧ w'.cell? ⟨g8, 8, none⟩ = some u.w ∧ w'.cell? ⟨g8, 9, none⟩ = some u.f ∧ w'.cell? (at_ av a) = some (.int .i64 pw) ∧ w'.cell? (at_ av q) = some (.int .i64 pv) ∧ w'.cell? (at_ av r) = some (.int .i64 pr)) (by kernel_rfl) (by kernel_rfl) (by kernel_rfl) (fun _ d _ _ _ h => by cases d <;> exact h) (KF.out _ (Mod.drew (Mod.refl _ _))) ?_
                       simp only [planL, getO]
                       (refine plan_take (v := ?_) (by rfl) (fun wS hS => ?_) ?_; rotate_left; (focus ((try dsimp only at hS); go_simp; (try with_reducible rfl); done)); (try simp only [Act.put, List.setIfInBounds_toArray, List.set_cons_zero, List.set_cons_succ]))
                       refine plan_call (fun K hK => ?_)
                       go_simp
                       go_at_call 129; refine (writes_any _ ⟨x.ag, x.kind, true, x.nt, x.blk, x.at_, x.size, x.rd, x.wr, x.fr⟩ u (HVX.out _ (Mod.drew (Mod.refl _ _)))).mono ?_; rintro en w9 ⟨rfl, y9⟩; have E9 : Ext w8 w9 := Mod.trans (Mod.drew (Mod.refl _ _)) y9; rw [show wrsB ⟨x.ag, x.kind, true, x.nt, x.blk, x.at_, x.size, x.rd, x.wr, x.fr⟩ = true from HWR.out]
                       refine hK.out _ _ (KF.out _ E9) ?_
                       clear hK K
                       (try simp only [Act.put, List.setIfInBounds_toArray, List.set_cons_zero, List.set_cons_succ])
                       iterate 37 (refine plan_take (v := ?_) (by rfl) (fun wS hS => ?_) ?_; rotate_left; (focus ((try dsimp only at hS); go_simp; (try with_reducible rfl); done)); (try simp only [Act.put, List.setIfInBounds_toArray, List.set_cons_zero, List.set_cons_succ]))
                       iterate 7 (refine plan_skip (by rfl) ?_; (try simp only [Act.put, List.setIfInBounds_toArray, List.set_cons_zero, List.set_cons_succ]))
                       (refine plan_take (v := ?_) (by rfl) (fun wS hS => ?_) ?_; rotate_left; (focus ((try dsimp only at hS); go_simp; (try with_reducible rfl); done)); (try simp only [Act.put, List.setIfInBounds_toArray, List.set_cons_zero, List.set_cons_succ]))
                       refine plan_nil ?_
                       have HNN := Lib.hid (lt_step HN3.out HNO.out)
                       go_wp2_with fail
                       go_roundw
                       case rel => exact ⟨q + 1, by omega, by go_num, HNN.out, HXV.out.trans (HW8.out.2.2.1.trans E9)⟩
                       case measure => simp [intOf]; omega
                   · have HNO : Hid (atoP L l r a q = false) := Lib.hid (by rw [HAP.out]; simp [hpw])
                     clear hqa hqr
                     refine wp_region_plan [(0, true), (1, false), (2, true), (3, true), (4, true), (5, true), (6, true), (7, true), (8, true), (9, true), (10, true), (11, true), (12, true), (13, true), (14, true), (15, true), (16, true), (17, true), (18, true), (19, true), (20, true), (21, true), (22, true), (23, true), (24, true), (25, true), (26, true), (27, true), (28, true), (29, true), (30, true), (31, true), (32, true), (33, true), (34, true), (35, true), (36, true), (37, true), (38, true), (39, true), (40, true), (41, true), (42, true), (43, true), (44, true), (45, false), (46, true)] (fun w' => w'.cell? ⟨g0, 0, none⟩ = some ve ∧ w'.cell? ⟨g0, 1, none⟩ = some vp ∧ w'.cell? ⟨g8, 0, none⟩ = some (.int .i64 (x).ag) ∧ w'.cell? ⟨g8, 1, none⟩ = some (.int .i64 (x).kind) ∧ w'.cell? ⟨g8, 2, none⟩ = some (.bool true) ∧ w'.cell? ⟨g8, 3, none⟩ = some (.bool (x).nt) ∧ w'.cell? ⟨g8, 4, none⟩ = some (.int .i64 (x).blk) ∧ w'.cell? ⟨g8, 5, none⟩ = some (.int .i64 (x).at_) ∧ w'.cell? ⟨g8, 6, none⟩ = some (.int .i64 (x).size) ∧ w'.cell? ⟨g8, 7, none⟩ = some u.r ∧ w'.cell? ⟨g8, 8, none⟩ = some u.w ∧ w'.cell? ⟨g8, 9, none⟩ = some u.f ∧ w'.cell? (at_ av a) = some (.int .i64 pw) ∧ w'.cell? (at_ av q) = some (.int .i64 pv) ∧ w'.cell? (at_ av r) = some (.int .i64 pr)) (by kernel_rfl) (by kernel_rfl) (by kernel_rfl) (fun _ d _ _ _ h => by cases d <;> exact h) (KF.out _ (Mod.drew (Mod.refl _ _))) ?_
                     simp only [planL, getO]
                     (refine plan_take (v := ?_) (by rfl) (fun wS hS => ?_) ?_; rotate_left; (focus ((try dsimp only at hS); go_simp; (try with_reducible rfl); done)); (try simp only [Act.put, List.setIfInBounds_toArray, List.set_cons_zero, List.set_cons_succ]))
                     refine plan_call (fun K hK => ?_)
                     go_simp
                     go_at_call 129; refine (writes_any _ ⟨x.ag, x.kind, true, x.nt, x.blk, x.at_, x.size, x.rd, x.wr, x.fr⟩ u (HVX.out _ (Mod.drew (Mod.refl _ _)))).mono ?_; rintro en w9 ⟨rfl, y9⟩; have E9 : Ext w8 w9 := Mod.trans (Mod.drew (Mod.refl _ _)) y9; rw [show wrsB ⟨x.ag, x.kind, true, x.nt, x.blk, x.at_, x.size, x.rd, x.wr, x.fr⟩ = true from HWR.out]
                     refine hK.out _ _ (KF.out _ E9) ?_
                     clear hK K
                     (try simp only [Act.put, List.setIfInBounds_toArray, List.set_cons_zero, List.set_cons_succ])
                     iterate 26 (refine plan_take (v := ?_) (by rfl) (fun wS hS => ?_) ?_; rotate_left; (focus ((try dsimp only at hS); go_simp; (try with_reducible rfl); done)); (try simp only [Act.put, List.setIfInBounds_toArray, List.set_cons_zero, List.set_cons_succ]))
                     iterate 9 (refine plan_skip (by rfl) ?_; (try simp only [Act.put, List.setIfInBounds_toArray, List.set_cons_zero, List.set_cons_succ]))
                     iterate 2 (refine plan_take (v := ?_) (by rfl) (fun wS hS => ?_) ?_; rotate_left; (focus ((try dsimp only at hS); go_simp; (try with_reducible rfl); done)); (try simp only [Act.put, List.setIfInBounds_toArray, List.set_cons_zero, List.set_cons_succ]))
                     iterate 7 (refine plan_skip (by rfl) ?_; (try simp only [Act.put, List.setIfInBounds_toArray, List.set_cons_zero, List.set_cons_succ]))
                     (refine plan_take (v := ?_) (by rfl) (fun wS hS => ?_) ?_; rotate_left; (focus ((try dsimp only at hS); go_simp; (try with_reducible rfl); done)); (try simp only [Act.put, List.setIfInBounds_toArray, List.set_cons_zero, List.set_cons_succ]))
                     refine plan_nil ?_
                     have HNN := Lib.hid (lt_step HN3.out HNO.out)
                     go_wp2_with fail
                     go_roundw
                     case rel => exact ⟨q + 1, by omega, by go_num, HNN.out, HXV.out.trans (HW8.out.2.2.1.trans E9)⟩
                     case measure => simp [intOf]; omega
           · have hltq' : ¬ (q : Int) < (L.ev.length : Int) := by omega
             have HNN := Lib.hid (lt_step HN2.out (show atoQ L l r i = false by rw [HQA.out]; exact anyB_none.2 fun j hj => HN3.out j (by omega)))
             go_wp2_with fail
             go_roundw
             case rel => exact ⟨i + 1, by omega, by go_num, HNN.out, HXV.out⟩
             case measure => simp [intOf]; omega
      · have hil' : ¬ (i : Int) < (e.fr.length : Int) := by omega
        have HNN := Lib.hid (lt_step HN.out (show atoB L l r = false from anyB_none.2 fun j hj => HN2.out j (by rw [← HE.out.1] at hj; omega)))
        clear xq
        go_wp2_with fail
        go_roundw
        case rel => exact ⟨r + 1, by omega, by go_num, HNN.out, HXQ.out⟩
        case measure => simp [intOf]; omega
   · have hlt' : ¬ (r : Int) < (L.ev.length : Int) := by omega
     have HF : Hid (atoI L l = -1) := Lib.hid (by rw [HC.out]; exact fstN_none fun j hj => HN.out j (by omega))
     go_wp2_with fail
     go_ret
     exact ⟨by rw [HF.out]; rfl, HW.out.2.2.trans (HX5.out.trans HX.out)⟩
end Go.Proofs.YtbhocahmhmafmaaGreat
namespace Go.Proofs.YtbhocahmhmafmaaGreat
open Go.Ren Go.RowKit
set_option linter.unusedVariables false
set_option maxRecDepth 100000 in
set_option maxHeartbeats 800000 in
theorem valid_any (w : World) (ve vp : Value) (V : Nat → Vs) (L : Lg) (h : LogIn w ve vp V L) (hl : L.ev.length ≤ 64) (ov : Value) (l : List Int) (hov : IntsAt w ov l) :
 Calls Tryz.prog 25 #[.agg #[ve, vp], ov] w (FPost (valB L l) w) := by
 have HLE := Lib.hid hl
 have HOV := Lib.hid hov
 obtain ⟨B, hB⟩ : ∃ B, B = valB L l := ⟨_, rfl⟩
 rw [← hB]
 obtain ⟨M, hM⟩ : ∃ x, x = mayL L := ⟨_, rfl⟩
 obtain ⟨C, hC⟩ : ∃ x, x = cohI L := ⟨_, rfl⟩
 obtain ⟨T, hT⟩ : ∃ x, x = tearI L := ⟨_, rfl⟩
 obtain ⟨O, hO⟩ : ∃ x, x = ordB L l := ⟨_, rfl⟩
 obtain ⟨A, hA⟩ : ∃ x, x = atoI L l := ⟨_, rfl⟩
 have HB : Hid (B = (M && decide (C = -1) && decide (T = -1) && O && decide (A = -1))) := Lib.hid (by rw [hB, hM, hC, hT, hO, hA]; rfl)
 have HM := Lib.hid hM.symm
 have HC := Lib.hid hC.symm
 have HT := Lib.hid hT.symm
 have HO := Lib.hid hO
 have HA := Lib.hid hA.symm
 clear hl hov hB hM hC hT hO hA
 have q1 := Sl.cells_eq h.row
 have q2 := Sl.cells_eq h.prow
 have s1 := Sl.run_st (P := Tryz.prog) h.row
 have s2 := Sl.run_st (P := Tryz.prog) h.prow
 obtain ⟨w0, hw0⟩ : ∃ w0, w0 = w.alloc (.cells #[ve, vp] 48) := ⟨_, rfl⟩
 obtain ⟨g0, hg0⟩ : ∃ g, g = w.heap.size := ⟨_, rfl⟩
 have x0 : Ext w w0 := by rw [hw0]; exact (Mod.refl _ _).alloc _
 have b0 : LogBox w0 g0 ve vp := ⟨by rw [hw0, hg0]; exact heap_alloc_new _ _⟩
 have HW := Lib.hid (And.intro hw0 (And.intro hg0 x0))
 have KE : Hid (∀ w', Ext w0 w' → LogIn w' ve vp V L ∧ LogBox w' g0 ve vp) := Lib.hid fun w' x => ⟨h.ext (x0.trans x), b0.ext x⟩
 have HI := Lib.hid (h.row.run_idx (P := Tryz.prog) IEv.und IEv.size .i64)
 have HJ := Lib.hid (h.prow.run_idx (P := Tryz.prog) IP.und IP.size .i64)
 have l1 := h.row.run_len (P := Tryz.prog) IEv.und 3
 have l2 := h.prow.run_len (P := Tryz.prog) IP.und 3
 obtain ⟨c0, c1⟩ := b0.cells
 clear hw0 hg0 x0 b0 h
 go_enter Tryz.func25, Tryz.ntmps25
 go_upto_region 1 with fail
 rw [← HW.out.1, ← HW.out.2.1]
 clear s1 s2
 go_wp2_with fail
 refine (may_any _ ve vp V L (KE.out _ (Mod.refl _ _)).1).mono ?_
 rintro e w1 ⟨rfl, z1⟩
 have Y1 := Lib.hid z1
 rw [HM.out]
 clear z1 c0 c1
 cases M with
 | false =>
  go_wp2_with fail
  go_ret
  exact ⟨ret_bool (by rw [HB.out]; rfl), HW.out.2.2.trans Y1.out⟩
 | true =>
  obtain ⟨c0, c1⟩ := (KE.out _ Y1.out).2.cells
  go_wp2_with fail
  refine (coherent_any _ ve vp V L (KE.out _ Y1.out).1 HLE.out).mono ?_
  rintro e w2 ⟨rfl, z2⟩
  have Y2 := Lib.hid (Mod.trans Y1.out z2)
  rw [HC.out]
  clear z2 c0 c1
  by_cases hC : C = -1
  · subst hC
    obtain ⟨c0, c1⟩ := (KE.out _ Y2.out).2.cells
    go_wp2_with fail
    refine (tearfree_any _ ve vp V L (KE.out _ Y2.out).1 HLE.out).mono ?_
    rintro e w3 ⟨rfl, z3⟩
    have Y3 := Lib.hid (Mod.trans Y2.out z3)
    rw [HT.out]
    clear z3 c0 c1
    by_cases hT : T = -1
    · subst hT
      obtain ⟨c0, c1⟩ := (KE.out _ Y3.out).2.cells
      go_wp2_with fail
      refine (ordered_any _ ve vp V L (KE.out _ Y3.out).1 HLE.out ov l (HOV.out.ext (HW.out.2.2.trans Y3.out))).mono ?_
      rintro e w4 ⟨rfl, z4⟩
      have Y4 := Lib.hid (Mod.trans Y3.out z4)
      rw [show ordI L l = (if O = true then -1 else 0) by rw [HO.out]; rfl]
      clear z4 c0 c1
      cases O with
      | false =>
       simp only [Bool.false_eq_true, if_false]
       have HF : Hid (B = false) := Lib.hid (by rw [HB.out]; simp)
       go_wp2_with fail
       go_ret
       exact ⟨ret_bool (by rw [HF.out]), HW.out.2.2.trans Y4.out⟩
      | true =>
       simp only [if_true]
       obtain ⟨c0, c1⟩ := (KE.out _ Y4.out).2.cells
       go_wp2_with fail
       refine (atomic_any _ ve vp V L (KE.out _ Y4.out).1 HLE.out ov l (HOV.out.ext (HW.out.2.2.trans Y4.out))).mono ?_
       rintro e w5 ⟨rfl, z5⟩
       have Y5 := Lib.hid (Mod.trans Y4.out z5)
       rw [HA.out]
       clear z5 c0 c1
       by_cases hA : A = -1
       · subst hA
         go_wp2_with fail
         go_ret
         exact ⟨ret_bool (by rw [HB.out]; rfl), HW.out.2.2.trans Y5.out⟩
       · have eA : (A == -1) = false := by simpa using hA
         have HF : Hid (B = false) := Lib.hid (by rw [HB.out]; simp [hA])
         clear hA
         go_wp2_with fail
         go_ret
         exact ⟨ret_bool (by rw [HF.out]), HW.out.2.2.trans Y5.out⟩
    · have eT : (T == -1) = false := by simpa using hT
      have HF : Hid (B = false) := Lib.hid (by rw [HB.out]; simp [hT])
      clear hT
      go_wp2_with fail
      go_ret
      exact ⟨ret_bool (by rw [HF.out]), HW.out.2.2.trans Y3.out⟩
  · have eC : (C == -1) = false := by simpa using hC
    have HF : Hid (B = false) := Lib.hid (by rw [HB.out]; simp [hC])
    clear hC
    go_wp2_with fail
    go_ret
    exact ⟨ret_bool (by rw [HF.out]), HW.out.2.2.trans Y2.out⟩
end Go.Proofs.YtbhocahmhmafmaaGreat
