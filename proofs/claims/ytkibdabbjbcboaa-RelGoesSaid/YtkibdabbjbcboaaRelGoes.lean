/-
  RelGoes: the walk of renlaw15.RelGoes. No condition.
-/
import Derived.Test.YtkibdabbjbcboaaRelTool
namespace Go.Proofs.Ytkibdabbjbcboaa
open Go.Ren Go.RowKit
set_option linter.unusedVariables false

set_option maxRecDepth 100000 in
set_option maxHeartbeats 1600000 in
theorem relGoes_all (w : World) (ve vp : Value) (V : Nat → Vs) (L : Lg) (h : LogIn w ve vp V L) :
    Calls Try.prog 5 #[.agg #[ve, vp]] w (FPost true w) := by
  have q1 := Sl.cells_eq h.row
  have q2 := Sl.cells_eq h.prow
  have s1 := Sl.run_st (P := Try.prog) h.row
  have s2 := Sl.run_st (P := Try.prog) h.prow
  obtain ⟨w0, hw0⟩ : ∃ w0, w0 = w.alloc (.cells #[ve, vp] 25) := ⟨_, rfl⟩
  obtain ⟨g0, hg0⟩ : ∃ g, g = w.heap.size := ⟨_, rfl⟩
  have x0 : Ext w w0 := by rw [hw0]; exact (Mod.refl _ _).alloc _
  have b0 : LogBox w0 g0 ve vp := ⟨by rw [hw0, hg0]; exact heap_alloc_new _ _⟩
  have HW := Lib.hid (And.intro hw0 (And.intro hg0 x0))
  have KE : Hid (∀ w', Ext w0 w' → LogIn w' ve vp V L ∧ LogBox w' g0 ve vp) := Lib.hid fun w' x => ⟨h.ext (x0.trans x), b0.ext x⟩
  have HI := Lib.hid (h.row.run_idx (P := Try.prog) IEv.und IEv.size .i64)
  have HJ := Lib.hid (h.prow.run_idx (P := Try.prog) IP.und IP.size .i64)
  have l1 := h.row.run_len (P := Try.prog) IEv.und 3
  have l2 := h.prow.run_len (P := Try.prog) IP.und 3
  clear hw0 hg0 x0 b0 h
  go_enter Try.func5, Try.ntmps5
  go_upto_region 1 with fail
  rw [← HW.out.1, ← HW.out.2.1]
  clear s1 s2
  go_wp2_with fail
  refine (first15_any _).mono ?_
  rintro e w1 ⟨rfl, x1⟩
  obtain ⟨c0, c1⟩ := (KE.out _ x1).2.cells
  go_wp2_with fail
  refine (few_any _ _ _ V L (KE.out _ x1).1 60 (by decide)).mono ?_
  rintro r w2 ⟨⟨r, rfl, hf⟩, y2⟩
  have X2 : Ext w0 w2 := x1.trans y2
  clear c0 c1
  obtain ⟨c0, c1⟩ := (KE.out _ X2).2.cells
  cases r with
  | false =>
    clear hf
    go_wp2_with fail
    refine (first15_any _).mono ?_
    rintro e w3 ⟨rfl, x3⟩
    go_wp2_with fail
    go_ret
    exact ⟨rfl, (HW.out.2.2.trans X2).trans x3⟩
  | true =>
    have HS : Hid (L.ev.length ≤ 60 ∧ L.pr.length ≤ 60 ∧ ∀ i, i < L.ev.length → (evn L.ev i).rd.length ≤ 20000 ∧ (evn L.ev i).wr.length ≤ 20000 ∧ (evn L.ev i).fr.length ≤ 20000) := Lib.hid (hf rfl)
    have hle : (L.ev.length : Int) ≤ 60 := by have := HS.out.1; omega
    have hle2 : (L.pr.length : Int) ≤ 60 := by have := HS.out.2.1; omega
    clear hf
    have KF : Hid (∀ w', Ext w2 w' → w'.cell? ⟨g0, 0, none⟩ = some ve ∧ w'.cell? ⟨g0, 1, none⟩ = some vp) := Lib.hid fun w' x => (KE.out _ (X2.trans x)).2.cells
    clear c0 c1
    go_upto_region 5 with fail
    refine wp_region_plan [(0, true), (2, true), (4, true), (1, false), (3, false), (5, false), (6, true), (7, true), (8, true)] (fun w' => w'.cell? ⟨g0, 0, none⟩ = some ve ∧ w'.cell? ⟨g0, 1, none⟩ = some vp) (by kernel_rfl) (by kernel_rfl) (by kernel_rfl) (fun _ d _ _ _ h => by cases d <;> exact h) (KF.out _ (Mod.drew (Mod.refl _ _))) ?_
    simp only [planL, getO]
    iterate 3 (refine plan_take (v := ?_) (by rfl) (fun wS hS => ?_) ?_; rotate_left; (focus ((try dsimp only at hS); go_simp; (try with_reducible rfl); done)); (try simp only [Act.put, List.setIfInBounds_toArray, List.set_cons_zero, List.set_cons_succ]))
    refine plan_call (fun K hK => ?_)
    go_simp
    go_at_call 17; refine (rbefore_any _ ve vp V L (KE.out _ (X2.trans (Mod.drew (Mod.refl _ _)))).1 (by have := HS.out.1; omega)).mono ?_; rintro e w3 h3; obtain ⟨p3, rfl, r3, y3⟩ := rpost_is h3; have E3 : Ext w2 w3 := Mod.trans (Mod.drew (Mod.refl _ _)) y3; have HR3 := Lib.hid r3; clear h3 r3
    refine hK.out _ _ (KF.out _ E3) ?_
    clear hK K
    (try simp only [Act.put, List.setIfInBounds_toArray, List.set_cons_zero, List.set_cons_succ])
    refine plan_call (fun K hK => ?_)
    go_simp
    go_at_call 24; refine (rsync_any _ ve vp V L (KE.out _ (X2.trans E3)).1 (by have := HS.out.1; omega)).mono ?_; rintro e w4 h4; obtain ⟨p4, rfl, r4, y4⟩ := rpost_is h4; have E4 : Ext w2 w4 := Mod.trans E3 y4; have HR4 := Lib.hid r4; clear h4 r4
    refine hK.out _ _ (KF.out _ E4) ?_
    clear hK K
    (try simp only [Act.put, List.setIfInBounds_toArray, List.set_cons_zero, List.set_cons_succ])
    refine plan_call (fun K hK => ?_)
    go_simp
    go_at_call 22; refine (rfrom_any _ ve vp V L (KE.out _ (X2.trans E4)).1 (by have := HS.out.1; omega)).mono ?_; rintro e w5 h5; obtain ⟨p5, rfl, r5, y5⟩ := rpost_is h5; have E5 : Ext w2 w5 := Mod.trans E4 y5; have HR5 := Lib.hid r5; clear h5 r5
    refine hK.out _ _ (KF.out _ E5) ?_
    clear hK K
    (try simp only [Act.put, List.setIfInBounds_toArray, List.set_cons_zero, List.set_cons_succ])
    iterate 3 (refine plan_take (v := ?_) (by rfl) (fun wS hS => ?_) ?_; rotate_left; (focus ((try dsimp only at hS); go_simp; (try with_reducible rfl); done)); (try simp only [Act.put, List.setIfInBounds_toArray, List.set_cons_zero, List.set_cons_succ]))
    refine plan_nil ?_
    obtain ⟨c0, c1⟩ := KF.out _ E5
    go_wp2_with fail
    refine (may_any _ ve vp V L (KE.out _ (X2.trans E5)).1).mono ?_
    rintro e w6 ⟨rfl, y6⟩
    have KR : Hid (∀ w', Ext w6 w' → RelIs w' (.pointer (some ⟨p3, 0, none⟩)) (relN L) (hbB L) ∧ RelIs w' (.pointer (some ⟨p4, 0, none⟩)) (relN L) (synB L) ∧ RelIs w' (.pointer (some ⟨p5, 0, none⟩)) (relN L) (fromB L)) := Lib.hid fun w' x =>
      ⟨HR3.out.ext ((y4.trans y5).trans (y6.trans x)), HR4.out.ext (y5.trans (y6.trans x)), HR5.out.ext (y6.trans x)⟩
    have X6 : Ext w0 w6 := X2.trans (E5.trans y6)
    have HX6 := Lib.hid X6
    clear c0 c1
    obtain ⟨c0, c1⟩ := (KE.out _ X6).2.cells
    cases hm : mayL L with
    | false =>
      have HM := Lib.hid hm
      clear hm
      rw [relN_not HM.out] at KR
      go_wp2_with fail
      refine (first15_any _).mono ?_
      rintro e w7 ⟨rfl, y7⟩
      go_wp2_with fail
      refine (rlen_any _ _ _ _ (KR.out _ y7).1).mono ?_
      rintro e w8 ⟨rfl, rfl⟩
      go_wp2_with fail
      refine (rlist_any _ _ _ _ (KR.out _ y7).1).mono ?_
      rintro e w9 ⟨v, rfl, hv, y9, -⟩
      have l9 := hv.sl.run_len (P := Try.prog) IP.und 3
      have e9 : (listR 0 (hbB L)).length = 0 := rfl
      rw [e9] at l9
      have X9 := Lib.hid (HX6.out.trans (y7.trans y9))
      clear hv y9 e9
      go_wp2_with fail
      go_ret
      exact ⟨rfl, HW.out.2.2.trans X9.out⟩
    | true =>
      have HM := Lib.hid hm
      clear hm
      rw [relN_may HM.out] at KR
      go_wp2_with fail
      clear c0 c1
      go_loopw [7] (fun s wr => ∃ a : Nat, a ≤ L.ev.length ∧ s = .int .i64 (a : Int) ∧ Ext w6 wr) (fun s _ => L.ev.length - (intOf s).toNat)
      case atStart => exact ⟨0, Nat.zero_le _, rfl, Mod.refl _ _⟩
      case round =>
        obtain ⟨a, ha, rfl, x⟩ := hrel
        have XA := Lib.hid x
        clear x
        by_cases hlt : a < L.ev.length
        · have hlt' : (a : Int) < (L.ev.length : Int) := by omega
          go_wp2_with fail
          go_loopw [8] (fun s wr => ∃ b : Nat, b ≤ L.ev.length ∧ s = .int .i64 (b : Int) ∧ Ext w6 wr) (fun s _ => L.ev.length - (intOf s).toNat)
          case atStart => exact ⟨0, Nat.zero_le _, rfl, XA.out⟩
          case round =>
            obtain ⟨b, hb, rfl, x⟩ := hrel
            have XW := Lib.hid x
            clear x
            by_cases hbl : b < L.ev.length
            · have hbl' : (b : Int) < (L.ev.length : Int) := by omega
              have hlg := (KE.out _ (HX6.out.trans XW.out)).1
              have i0 := HI.out a hlt
              have i1 := HI.out b hbl
              have c0 := (hlg.cells hlt).1
              have c1 := (hlg.cells hbl).1
              have hlaw := goes_law (L := L) (a := a) hbl
              obtain ⟨z1, hz1⟩ : ∃ z, z = (evn L.ev a).ag := ⟨_, rfl⟩
              obtain ⟨z2, hz2⟩ : ∃ z, z = (evn L.ev b).ag := ⟨_, rfl⟩
              obtain ⟨A1, hA1⟩ : ∃ A, A = at_ ve (a * 10) := ⟨_, rfl⟩
              obtain ⟨A2, hA2⟩ : ∃ A, A = at_ ve (b * 10) := ⟨_, rfl⟩
              rw [← hz1, ← hz2] at hlaw
              rw [← hz1, ← hA1] at c0
              rw [← hz2, ← hA2] at c1
              rw [← hA1] at i0
              rw [← hA2] at i1
              have KF : Hid (∀ w', Ext wr w' → w'.cell? ⟨g0, 0, none⟩ = some ve ∧ w'.cell? A1 = some (.int .i64 z1) ∧ w'.cell? A2 = some (.int .i64 z2)) := Lib.hid fun w' x => ⟨(KE.out _ (HX6.out.trans (XW.out.trans x))).2.cells.1, Ext.cell x c0, Ext.cell x c1⟩
              have HSB : Hid (hasB L.ev.length (synB L) (a : Int) (b : Int) = synB L a b) := Lib.hid (hasB_nat hlt hbl)
              obtain ⟨ST, hST⟩ : ∃ S, S = (decide (a < b) && (decide (z1 = z2) || synB L a b)) := ⟨_, rfl⟩
              rw [← hST] at hlaw
              have HST := Lib.hid hST
              have HLAW := Lib.hid hlaw
              clear hlg hz1 hz2 hA1 hA2 c0 c1 hST hlaw
              go_upto_region 17 with fail
              go_cut [9] (fun s9 wq => s9 = .bool ST ∧ Ext wr wq)
              case first =>
                by_cases hab : a < b
                · have hab' : (a : Int) < (b : Int) := by omega
                  by_cases hag : z1 = z2
                  · have HE : Hid (ST = true) := Lib.hid (by rw [HST.out]; simp [hab, hag])
                    clear hab
                    subst hag
                    refine wp_region_plan [(0, true), (1, true), (2, true), (3, true), (4, true), (5, true), (6, true), (7, true), (8, true), (9, true), (10, true), (11, true), (12, true), (13, true), (14, true), (15, true), (16, true), (17, true), (18, true), (19, true), (20, true), (21, false), (22, true), (23, true), (24, true)] (fun w' => w'.cell? ⟨g0, 0, none⟩ = some ve ∧ w'.cell? A1 = some (.int .i64 z1) ∧ w'.cell? A2 = some (.int .i64 z1)) (by kernel_rfl) (by kernel_rfl) (by kernel_rfl) (fun _ d _ _ _ h => by cases d <;> exact h) (KF.out _ (Mod.drew (Mod.refl _ _))) ?_
                    simp only [planL, getO]
                    iterate 18 (refine plan_take (v := ?_) (by rfl) (fun wS hS => ?_) ?_; rotate_left; (focus ((try dsimp only at hS); go_simp; (try with_reducible rfl); done)); (try simp only [Act.put, List.setIfInBounds_toArray, List.set_cons_zero, List.set_cons_succ]))
                    iterate 3 (refine plan_skip (by rfl) ?_; (try simp only [Act.put, List.setIfInBounds_toArray, List.set_cons_zero, List.set_cons_succ]))
                    (refine plan_skip (by rfl) ?_; (try simp only [Act.put, List.setIfInBounds_toArray, List.set_cons_zero, List.set_cons_succ]))
                    iterate 3 (refine plan_take (v := ?_) (by rfl) (fun wS hS => ?_) ?_; rotate_left; (focus ((try dsimp only at hS); go_simp; (try with_reducible rfl); done)); (try simp only [Act.put, List.setIfInBounds_toArray, List.set_cons_zero, List.set_cons_succ]))
                    refine plan_nil ?_
                    go_wp2_with fail
                    go_meet
                    exact ⟨by rw [HE.out], Mod.drew (Mod.refl _ _)⟩
                  · have hne : (z1 == z2) = false := by simpa using hag
                    have HE : Hid (ST = synB L a b) := Lib.hid (by rw [HST.out]; simp [hab, hag])
                    clear hab hag
                    refine wp_region_plan [(0, true), (1, true), (2, true), (3, true), (4, true), (5, true), (6, true), (7, true), (8, true), (9, true), (10, true), (11, true), (12, true), (13, true), (14, true), (15, true), (16, true), (17, true), (18, true), (19, true), (20, true), (21, false), (22, true), (23, true), (24, true)] (fun w' => w'.cell? ⟨g0, 0, none⟩ = some ve ∧ w'.cell? A1 = some (.int .i64 z1) ∧ w'.cell? A2 = some (.int .i64 z2)) (by kernel_rfl) (by kernel_rfl) (by kernel_rfl) (fun _ d _ _ _ h => by cases d <;> exact h) (KF.out _ (Mod.drew (Mod.refl _ _))) ?_
                    simp only [planL, getO]
                    iterate 21 (refine plan_take (v := ?_) (by rfl) (fun wS hS => ?_) ?_; rotate_left; (focus ((try dsimp only at hS); go_simp; (try with_reducible rfl); done)); (try simp only [Act.put, List.setIfInBounds_toArray, List.set_cons_zero, List.set_cons_succ]))
                    refine plan_call (fun K hK => ?_)
                    go_simp
                    go_at_call 29; refine (has_any _ _ _ _ (KR.out _ (XW.out.trans (Mod.drew (Mod.refl _ _)))).2.1 a b).mono ?_; rintro e w6 ⟨rfl, y6⟩; have E6 : Ext wr w6 := Mod.trans (Mod.drew (Mod.refl _ _)) y6; rw [HSB.out]
                    refine hK.out _ _ (KF.out _ E6) ?_
                    clear hK K
                    (try simp only [Act.put, List.setIfInBounds_toArray, List.set_cons_zero, List.set_cons_succ])
                    iterate 3 (refine plan_take (v := ?_) (by rfl) (fun wS hS => ?_) ?_; rotate_left; (focus ((try dsimp only at hS); go_simp; (try with_reducible rfl); done)); (try simp only [Act.put, List.setIfInBounds_toArray, List.set_cons_zero, List.set_cons_succ]))
                    refine plan_nil ?_
                    go_wp2_with fail
                    go_meet
                    exact ⟨by rw [HE.out], E6⟩
                · have hab' : ¬ (a : Int) < (b : Int) := by omega
                  have HE : Hid (ST = false) := Lib.hid (by rw [HST.out]; simp [hab])
                  clear hab
                  refine wp_region_plan [(0, true), (1, true), (2, true), (3, true), (4, true), (5, true), (6, true), (7, true), (8, true), (9, true), (10, true), (11, true), (12, true), (13, true), (14, true), (15, true), (16, true), (17, true), (18, true), (19, true), (20, true), (21, false), (22, true), (23, true), (24, true)] (fun w' => w'.cell? ⟨g0, 0, none⟩ = some ve ∧ w'.cell? A1 = some (.int .i64 z1) ∧ w'.cell? A2 = some (.int .i64 z2)) (by kernel_rfl) (by kernel_rfl) (by kernel_rfl) (fun _ d _ _ _ h => by cases d <;> exact h) (KF.out _ (Mod.drew (Mod.refl _ _))) ?_
                  simp only [planL, getO]
                  iterate 4 (refine plan_take (v := ?_) (by rfl) (fun wS hS => ?_) ?_; rotate_left; (focus ((try dsimp only at hS); go_simp; (try with_reducible rfl); done)); (try simp only [Act.put, List.setIfInBounds_toArray, List.set_cons_zero, List.set_cons_succ]))
                  iterate 17 (refine plan_skip (by rfl) ?_; (try simp only [Act.put, List.setIfInBounds_toArray, List.set_cons_zero, List.set_cons_succ]))
                  (refine plan_skip (by rfl) ?_; (try simp only [Act.put, List.setIfInBounds_toArray, List.set_cons_zero, List.set_cons_succ]))
                  (refine plan_skip (by rfl) ?_; (try simp only [Act.put, List.setIfInBounds_toArray, List.set_cons_zero, List.set_cons_succ]))
                  iterate 2 (refine plan_take (v := ?_) (by rfl) (fun wS hS => ?_) ?_; rotate_left; (focus ((try dsimp only at hS); go_simp; (try with_reducible rfl); done)); (try simp only [Act.put, List.setIfInBounds_toArray, List.set_cons_zero, List.set_cons_succ]))
                  refine plan_nil ?_
                  go_wp2_with fail
                  go_meet
                  exact ⟨by rw [HE.out], Mod.drew (Mod.refl _ _)⟩
              case rest =>
                obtain ⟨rfl, hcut⟩ := hcut
                have XC := Lib.hid (XW.out.trans hcut)
                clear hcut
                go_wp2_with fail
                go_loopw [10, 11] (fun s10 s11 wr => ∃ k : Nat, k ≤ L.ev.length ∧ s10 = .bool (anyB (fun c => hbB L a c && hbB L c b) k) ∧ s11 = .int .i64 (k : Int) ∧ Ext w6 wr) (fun _ s _ => L.ev.length - (intOf s).toNat)
                case atStart => exact ⟨0, Nat.zero_le _, rfl, rfl, XC.out⟩
                case round =>
                  obtain ⟨k, hk, rfl, rfl, x⟩ := hrel
                  have XV := Lib.hid x
                  clear x
                  by_cases hkl : k < L.ev.length
                  · have hkl' : (k : Int) < (L.ev.length : Int) := by omega
                    obtain ⟨TH, hTH⟩ : ∃ T, T = anyB (fun c => hbB L a c && hbB L c b) k := ⟨_, rfl⟩
                    rw [← hTH]
                    have HTH := Lib.hid hTH.symm
                    clear hTH
                    cases TH with
                    | true =>
                      have HN : Hid (anyB (fun c => hbB L a c && hbB L c b) (k + 1) = true) := Lib.hid (by rw [anyB_succ, HTH.out]; rfl)
                      go_wp2_with fail
                      go_roundw
                      case rel => exact ⟨k + 1, by omega, by rw [HN.out], by go_num, XV.out⟩
                      case measure => simp [intOf]; omega
                    | false =>
                      go_wp2_with fail
                      refine (has_any _ _ _ _ (KR.out _ XV.out).1 a k).mono ?_
                      rintro e v1 ⟨rfl, z3⟩
                      have XV1 := Lib.hid (XV.out.trans z3)
                      clear z3
                      rw [hasB_nat hlt hkl]
                      cases h1 : hbB L a k with
                      | false =>
                        have HN : Hid (anyB (fun c => hbB L a c && hbB L c b) (k + 1) = false) := Lib.hid (by rw [anyB_succ, HTH.out, h1]; rfl)
                        clear h1
                        go_wp2_with fail
                        go_roundw
                        case rel => exact ⟨k + 1, by omega, by rw [HN.out], by go_num, XV1.out⟩
                        case measure => simp [intOf]; omega
                      | true =>
                        have HN : Hid (anyB (fun c => hbB L a c && hbB L c b) (k + 1) = hbB L k b) := Lib.hid (by rw [anyB_succ, HTH.out, h1]; rfl)
                        clear h1
                        go_wp2_with fail
                        refine (has_any _ _ _ _ (KR.out _ XV1.out).1 k b).mono ?_
                        rintro e v2 ⟨rfl, z3⟩
                        have XV2 := Lib.hid (XV1.out.trans z3)
                        clear z3
                        rw [hasB_nat hkl hbl]
                        go_wp2_with fail
                        go_roundw
                        case rel => exact ⟨k + 1, by omega, by rw [HN.out], by go_num, XV2.out⟩
                        case measure => simp [intOf]; omega
                  · have hkl' : ¬ (k : Int) < (L.ev.length : Int) := by omega
                    have hkn : k = L.ev.length := by omega
                    obtain ⟨TH, hTH⟩ : ∃ T, T = anyB (fun c => hbB L a c && hbB L c b) k := ⟨_, rfl⟩
                    rw [← hTH]
                    rw [hkn] at hTH
                    have hlaw := HLAW.out
                    rw [← hTH] at hlaw
                    have HLAW := Lib.hid hlaw
                    clear hTH hkn hlaw
                    cases ST with
                    | false =>
                      cases TH with
                      | false =>
                        have HHB : Hid (hasB L.ev.length (hbB L) (a : Int) (b : Int) = false) := Lib.hid (by rw [hasB_nat hlt hbl, HLAW.out]; rfl)
                        go_wp2_with fail
                        refine (has_any _ _ _ _ (KR.out _ XV.out).1 a b).mono ?_
                        rintro e v1 ⟨rfl, z1⟩
                        have XV1 := Lib.hid (XV.out.trans z1)
                        rw [HHB.out]
                        clear z1
                        go_wp2_with fail
                        refine (has_any _ _ _ _ (KR.out _ XV1.out).1 a b).mono ?_
                        rintro e v2 ⟨rfl, z2⟩
                        have XV2 := Lib.hid (XV1.out.trans z2)
                        rw [HHB.out]
                        clear z2
                        go_wp2_with fail
                        refine (has_any _ _ _ _ (KR.out _ XV2.out).2.2 a b).mono ?_
                        rintro e v3 ⟨rfl, z3⟩
                        have XV3 := Lib.hid (XV2.out.trans z3)
                        rw [hasB_nat hlt hbl]
                        clear z3
                        cases hfr : fromB L a b with
                        | false =>
                          clear hfr
                          go_wp2_with fail
                          go_roundw
                          case rel => exact ⟨b + 1, by omega, by go_num, XV3.out⟩
                          case measure => simp [intOf]; omega
                        | true =>
                          have hge : ¬ (b : Int) ≤ (a : Int) := by have := fromB_lt HM.out hbl hfr; omega
                          clear hfr
                          go_wp2_with fail
                          go_roundw
                          case rel => exact ⟨b + 1, by omega, by go_num, XV3.out⟩
                          case measure => simp [intOf]; omega
                      | true =>
                        have HHB : Hid (hasB L.ev.length (hbB L) (a : Int) (b : Int) = true) := Lib.hid (by rw [hasB_nat hlt hbl, HLAW.out]; rfl)
                        go_wp2_with fail
                        refine (has_any _ _ _ _ (KR.out _ XV.out).1 a b).mono ?_
                        rintro e v1 ⟨rfl, z1⟩
                        have XV1 := Lib.hid (XV.out.trans z1)
                        rw [HHB.out]
                        clear z1
                        go_wp2_with fail
                        refine (has_any _ _ _ _ (KR.out _ XV1.out).1 a b).mono ?_
                        rintro e v2 ⟨rfl, z2⟩
                        have XV2 := Lib.hid (XV1.out.trans z2)
                        rw [HHB.out]
                        clear z2
                        have hge : ¬ (b : Int) ≤ (a : Int) := by have h1 := HHB.out; rw [hasB_nat hlt hbl] at h1; have := (hbB_lt h1).1; omega
                        go_wp2_with fail
                        refine (has_any _ _ _ _ (KR.out _ XV2.out).2.2 a b).mono ?_
                        rintro e v3 ⟨rfl, z3⟩
                        have XV3 := Lib.hid (XV2.out.trans z3)
                        rw [hasB_nat hlt hbl]
                        clear z3
                        cases hfr : fromB L a b with
                        | false =>
                          clear hfr
                          go_wp2_with fail
                          go_roundw
                          case rel => exact ⟨b + 1, by omega, by go_num, XV3.out⟩
                          case measure => simp [intOf]; omega
                        | true =>
                          clear hfr
                          go_wp2_with fail
                          go_roundw
                          case rel => exact ⟨b + 1, by omega, by go_num, XV3.out⟩
                          case measure => simp [intOf]; omega
                    | true =>
                      cases TH with
                      | false =>
                        have HHB : Hid (hasB L.ev.length (hbB L) (a : Int) (b : Int) = true) := Lib.hid (by rw [hasB_nat hlt hbl, HLAW.out]; rfl)
                        go_wp2_with fail
                        refine (has_any _ _ _ _ (KR.out _ XV.out).1 a b).mono ?_
                        rintro e v1 ⟨rfl, z1⟩
                        have XV1 := Lib.hid (XV.out.trans z1)
                        rw [HHB.out]
                        clear z1
                        go_wp2_with fail
                        refine (has_any _ _ _ _ (KR.out _ XV1.out).1 a b).mono ?_
                        rintro e v2 ⟨rfl, z2⟩
                        have XV2 := Lib.hid (XV1.out.trans z2)
                        rw [HHB.out]
                        clear z2
                        have hge : ¬ (b : Int) ≤ (a : Int) := by have h1 := HHB.out; rw [hasB_nat hlt hbl] at h1; have := (hbB_lt h1).1; omega
                        go_wp2_with fail
                        refine (has_any _ _ _ _ (KR.out _ XV2.out).2.2 a b).mono ?_
                        rintro e v3 ⟨rfl, z3⟩
                        have XV3 := Lib.hid (XV2.out.trans z3)
                        rw [hasB_nat hlt hbl]
                        clear z3
                        cases hfr : fromB L a b with
                        | false =>
                          clear hfr
                          go_wp2_with fail
                          go_roundw
                          case rel => exact ⟨b + 1, by omega, by go_num, XV3.out⟩
                          case measure => simp [intOf]; omega
                        | true =>
                          clear hfr
                          go_wp2_with fail
                          go_roundw
                          case rel => exact ⟨b + 1, by omega, by go_num, XV3.out⟩
                          case measure => simp [intOf]; omega
                      | true =>
                        have HHB : Hid (hasB L.ev.length (hbB L) (a : Int) (b : Int) = true) := Lib.hid (by rw [hasB_nat hlt hbl, HLAW.out]; rfl)
                        go_wp2_with fail
                        refine (has_any _ _ _ _ (KR.out _ XV.out).1 a b).mono ?_
                        rintro e v1 ⟨rfl, z1⟩
                        have XV1 := Lib.hid (XV.out.trans z1)
                        rw [HHB.out]
                        clear z1
                        go_wp2_with fail
                        refine (has_any _ _ _ _ (KR.out _ XV1.out).1 a b).mono ?_
                        rintro e v2 ⟨rfl, z2⟩
                        have XV2 := Lib.hid (XV1.out.trans z2)
                        rw [HHB.out]
                        clear z2
                        have hge : ¬ (b : Int) ≤ (a : Int) := by have h1 := HHB.out; rw [hasB_nat hlt hbl] at h1; have := (hbB_lt h1).1; omega
                        go_wp2_with fail
                        refine (has_any _ _ _ _ (KR.out _ XV2.out).2.2 a b).mono ?_
                        rintro e v3 ⟨rfl, z3⟩
                        have XV3 := Lib.hid (XV2.out.trans z3)
                        rw [hasB_nat hlt hbl]
                        clear z3
                        cases hfr : fromB L a b with
                        | false =>
                          clear hfr
                          go_wp2_with fail
                          go_roundw
                          case rel => exact ⟨b + 1, by omega, by go_num, XV3.out⟩
                          case measure => simp [intOf]; omega
                        | true =>
                          clear hfr
                          go_wp2_with fail
                          go_roundw
                          case rel => exact ⟨b + 1, by omega, by go_num, XV3.out⟩
                          case measure => simp [intOf]; omega
            · have hbl' : ¬ (b : Int) < (L.ev.length : Int) := by omega
              go_wp2_with fail
              go_roundw
              case rel => exact ⟨a + 1, by omega, by go_num, XW.out⟩
              case measure => simp [intOf]; omega
        · have hlt' : ¬ (a : Int) < (L.ev.length : Int) := by omega
          go_wp2_with fail
          refine (first15_any _).mono ?_
          rintro e w7 ⟨rfl, y7⟩
          go_wp2_with fail
          refine (rlen_any _ _ _ _ (KR.out _ (XA.out.trans y7)).1).mono ?_
          rintro e w8 ⟨rfl, rfl⟩
          go_wp2_with fail
          go_ret
          exact ⟨rfl, HW.out.2.2.trans (HX6.out.trans (XA.out.trans y7))⟩
end Go.Proofs.Ytkibdabbjbcboaa
