/-
  RelParts: the walk of renlaw15.RelParts. No condition.
-/
import Derived.Test.YtkibdabbjbcboaaRelPartsLaw
import Derived.Test.YtkibdabbjbcboaaPlanT
import Derived.Test.YtkibdabbjbcboaaRvAt
namespace Go.Proofs.Ytkibdabbjbcboaa
open Go.Ren Go.RowKit
set_option linter.unusedVariables false

set_option maxRecDepth 100000 in
set_option maxHeartbeats 3200000 in
theorem relParts_all (w : World) (ve vp : Value) (V : Nat → Vs) (L : Lg) (h : LogIn w ve vp V L) :
    Calls Try.prog 6 #[.agg #[ve, vp]] w (FPost true w) := by
  have q1 := Sl.cells_eq h.row
  have q2 := Sl.cells_eq h.prow
  have s1 := Sl.run_st (P := Try.prog) h.row
  have s2 := Sl.run_st (P := Try.prog) h.prow
  obtain ⟨w0, hw0⟩ : ∃ w0, w0 = w.alloc (.cells #[ve, vp] 25) := ⟨_, rfl⟩
  obtain ⟨g0, hg0⟩ : ∃ g, g = w.heap.size := ⟨_, rfl⟩
  have x0 : Ext w w0 := by rw [hw0]; exact (Mod.refl _ _).alloc _
  have b0 : LogBox w0 g0 ve vp := ⟨by rw [hw0, hg0]; exact heap_alloc_new _ _⟩
  have HW := Lib.hid (And.intro hw0 (And.intro hg0 x0))
  have KE : Hid (∀ w', Ext w0 w' → LogIn w' ve vp V L ∧ LogBox w' g0 ve vp) := Lib.hid fun w' x => ⟨h.ext (x0.trans x), b0.ext x⟩
  have HI := Lib.hid (h.row.run_idx (P := Try.prog) IEv.und IEv.size .i64)
  have HJ := Lib.hid (h.prow.run_idx (P := Try.prog) IP.und IP.size .i64)
  have l1 := h.row.run_len (P := Try.prog) IEv.und 3
  have l2 := h.prow.run_len (P := Try.prog) IP.und 3
  clear hw0 hg0 x0 b0 h
  go_enter Try.func6, Try.ntmps6
  go_upto_region 1 with fail
  rw [← HW.out.1, ← HW.out.2.1]
  clear s1 s2
  go_wp2_with fail
  refine (first15_any _).mono ?_
  rintro e w1 ⟨rfl, x1⟩
  obtain ⟨c0, c1⟩ := (KE.out _ x1).2.cells
  go_wp2_with fail
  refine (few_any _ _ _ V L (KE.out _ x1).1 60 (by decide)).mono ?_
  rintro r w2 ⟨⟨r, rfl, hf⟩, y2⟩
  have X2 : Ext w0 w2 := x1.trans y2
  clear c0 c1
  obtain ⟨c0, c1⟩ := (KE.out _ X2).2.cells
  cases r with
  | false =>
    clear hf
    go_wp2_with fail
    refine (first15_any _).mono ?_
    rintro e w3 ⟨rfl, x3⟩
    go_wp2_with fail
    go_ret
    exact ⟨rfl, (HW.out.2.2.trans X2).trans x3⟩
  | true =>
    have HS : Hid (L.ev.length ≤ 60 ∧ L.pr.length ≤ 60 ∧ ∀ i, i < L.ev.length → (evn L.ev i).rd.length ≤ 20000 ∧ (evn L.ev i).wr.length ≤ 20000 ∧ (evn L.ev i).fr.length ≤ 20000) := Lib.hid (hf rfl)
    have hle : (L.ev.length : Int) ≤ 60 := by have := HS.out.1; omega
    have hle2 : (L.pr.length : Int) ≤ 60 := by have := HS.out.2.1; omega
    clear hf
    go_wp2_with fail
    refine (may_any _ ve vp V L (KE.out _ X2).1).mono ?_
    rintro e w3 ⟨rfl, y3⟩
    have X3 : Ext w0 w3 := X2.trans y3
    clear c0 c1
    obtain ⟨c0, c1⟩ := (KE.out _ X3).2.cells
    cases hm : mayL L with
    | false =>
      clear hm
      go_wp2_with fail
      refine (first15_any _).mono ?_
      rintro e w4 ⟨rfl, x4⟩
      go_wp2_with fail
      go_ret
      exact ⟨rfl, (HW.out.2.2.trans X3).trans x4⟩
    | true =>
      have HM := Lib.hid hm
      clear hm
      have KF : Hid (∀ w', Ext w3 w' → w'.cell? ⟨g0, 0, none⟩ = some ve ∧ w'.cell? ⟨g0, 1, none⟩ = some vp) := Lib.hid fun w' x => (KE.out _ (X3.trans x)).2.cells
      clear c0 c1
      go_upto_region 5 with fail
      refine wp_region_plan [(0, true), (2, true), (1, false), (3, false), (4, true), (5, true)] (fun w' => w'.cell? ⟨g0, 0, none⟩ = some ve ∧ w'.cell? ⟨g0, 1, none⟩ = some vp) (by kernel_rfl) (by kernel_rfl) (by kernel_rfl) (fun _ d _ _ _ h => by cases d <;> exact h) (KF.out _ (Mod.drew (Mod.refl _ _))) ?_
      simp only [planL, getO]
      iterate 2 (refine plan_take (v := ?_) (by rfl) (fun wS hS => ?_) ?_; rotate_left; (focus ((try dsimp only at hS); go_simp; (try with_reducible rfl); done)); (try simp only [Act.put, List.setIfInBounds_toArray, List.set_cons_zero, List.set_cons_succ]))
      refine plan_call (fun K hK => ?_)
      go_simp
      go_at_call 22; refine (rfrom_any _ ve vp V L (KE.out _ (X3.trans (Mod.drew (Mod.refl _ _)))).1 (by have := HS.out.1; omega)).mono ?_; rintro e w4 h4; obtain ⟨p4, rfl, r4, y4⟩ := rpost_is h4; have E4 : Ext w3 w4 := Mod.trans (Mod.drew (Mod.refl _ _)) y4; rw [relN_may HM.out] at r4; have HR4 := Lib.hid r4; clear h4 r4
      refine hK.out _ _ (KF.out _ E4) ?_
      clear hK K
      (try simp only [Act.put, List.setIfInBounds_toArray, List.set_cons_zero, List.set_cons_succ])
      refine plan_call (fun K hK => ?_)
      go_simp
      go_at_call 24; refine (rsync_any _ ve vp V L (KE.out _ (X3.trans E4)).1 (by have := HS.out.1; omega)).mono ?_; rintro e w5 h5; obtain ⟨p5, rfl, r5, y5⟩ := rpost_is h5; have E5 : Ext w3 w5 := Mod.trans E4 y5; rw [relN_may HM.out] at r5; have HR5 := Lib.hid r5; clear h5 r5
      refine hK.out _ _ (KF.out _ E5) ?_
      clear hK K
      (try simp only [Act.put, List.setIfInBounds_toArray, List.set_cons_zero, List.set_cons_succ])
      iterate 2 (refine plan_take (v := ?_) (by rfl) (fun wS hS => ?_) ?_; rotate_left; (focus ((try dsimp only at hS); go_simp; (try with_reducible rfl); done)); (try simp only [Act.put, List.setIfInBounds_toArray, List.set_cons_zero, List.set_cons_succ]))
      refine plan_nil ?_
      have KR : Hid (∀ w', Ext w5 w' → RelIs w' (.pointer (some ⟨p4, 0, none⟩)) L.ev.length (fromB L) ∧ RelIs w' (.pointer (some ⟨p5, 0, none⟩)) L.ev.length (synB L)) := Lib.hid fun w' x => ⟨HR4.out.ext (y5.trans x), HR5.out.ext x⟩
      have HX5 := Lib.hid (X3.trans E5)
      go_wp2_with fail
      go_loopw [5] (fun s wr => ∃ a : Nat, a ≤ L.ev.length ∧ s = .int .i64 (a : Int) ∧ Ext w5 wr) (fun s _ => L.ev.length - (intOf s).toNat)
      case atStart => exact ⟨0, Nat.zero_le _, rfl, Mod.refl _ _⟩
      case round =>
        obtain ⟨a, ha, rfl, x⟩ := hrel
        have XA := Lib.hid x
        obtain ⟨c0, c1⟩ := (KE.out _ (HX5.out.trans x)).2.cells
        clear x
        by_cases hlt : a < L.ev.length
        · have hlt' : (a : Int) < (L.ev.length : Int) := by omega
          go_wp2_with fail
          clear c0 c1
          go_loopw [6] (fun s wr => ∃ b : Nat, b ≤ L.ev.length ∧ s = .int .i64 (b : Int) ∧ Ext w5 wr) (fun s _ => L.ev.length - (intOf s).toNat)
          case atStart => exact ⟨0, Nat.zero_le _, rfl, XA.out⟩
          case round =>
            obtain ⟨b, hb, rfl, x⟩ := hrel
            have XW := Lib.hid x
            obtain ⟨c0, c1⟩ := (KE.out _ (HX5.out.trans x)).2.cells
            clear x
            by_cases hbl : b < L.ev.length
            · have hbl' : (b : Int) < (L.ev.length : Int) := by omega
              have i0 := HI.out a hlt
              have i1 := HI.out b hbl
              obtain ⟨y, hy⟩ : ∃ e, e = evn L.ev b := ⟨_, rfl⟩
              obtain ⟨v, hv⟩ : ∃ v, v = V b := ⟨_, rfl⟩
              obtain ⟨x, hx⟩ : ∃ e, e = evn L.ev a := ⟨_, rfl⟩
              obtain ⟨u, hu⟩ : ∃ v, v = V a := ⟨_, rfl⟩
              obtain ⟨A1, hA1⟩ : ∃ A, A = at_ ve (a * 10) := ⟨_, rfl⟩
              obtain ⟨A2, hA2⟩ : ∃ A, A = at_ ve (b * 10) := ⟨_, rfl⟩
              rw [← hA1] at i0
              rw [← hA2] at i1
              have hya : EvAt wr y v := by rw [hy, hv]; exact ((KE.out _ (HX5.out.trans XW.out)).1).ev b hbl
              have hxa : EvAt wr x u := by rw [hx, hu]; exact ((KE.out _ (HX5.out.trans XW.out)).1).ev a hlt
              have KC : Hid (∀ w', Ext w5 w' → (w'.cell? ⟨g0, 0, none⟩ = some ve ∧ w'.cell? ⟨g0, 1, none⟩ = some vp) ∧ w'.cell? ⟨A2.block, A2.off + 9, none⟩ = some v.f ∧ EvAt w' y v ∧ LogIn w' ve vp V L) := Lib.hid fun w' z => by
                have h1 := KE.out _ (HX5.out.trans z)
                have h2 := h1.1.cells hbl
                rw [← hv, ← hA2] at h2
                exact ⟨h1.2.cells, h2.2.2.2.2.2.2.2.2.2, by have h3 := h1.1.ev b hbl; rw [← hy, ← hv] at h3; exact h3, h1.1⟩
              have KF2 : Hid (∀ w', Ext w5 w' → w'.cell? ⟨g0, 0, none⟩ = some ve ∧ w'.cell? A1 = some (.int .i64 (x).ag) ∧ w'.cell? ⟨A1.block, A1.off + 1, none⟩ = some (.int .i64 (x).kind) ∧ w'.cell? ⟨A1.block, A1.off + 2, none⟩ = some (.bool (x).seq) ∧ w'.cell? ⟨A1.block, A1.off + 3, none⟩ = some (.bool (x).nt) ∧ w'.cell? ⟨A1.block, A1.off + 4, none⟩ = some (.int .i64 (x).blk) ∧ w'.cell? ⟨A1.block, A1.off + 5, none⟩ = some (.int .i64 (x).at_) ∧ w'.cell? ⟨A1.block, A1.off + 6, none⟩ = some (.int .i64 (x).size) ∧ w'.cell? ⟨A1.block, A1.off + 7, none⟩ = some u.r ∧ w'.cell? ⟨A1.block, A1.off + 8, none⟩ = some u.w ∧ w'.cell? ⟨A1.block, A1.off + 9, none⟩ = some u.f ∧ w'.cell? A2 = some (.int .i64 (y).ag) ∧ w'.cell? ⟨A2.block, A2.off + 1, none⟩ = some (.int .i64 (y).kind) ∧ w'.cell? ⟨A2.block, A2.off + 2, none⟩ = some (.bool (y).seq) ∧ w'.cell? ⟨A2.block, A2.off + 3, none⟩ = some (.bool (y).nt) ∧ w'.cell? ⟨A2.block, A2.off + 4, none⟩ = some (.int .i64 (y).blk) ∧ w'.cell? ⟨A2.block, A2.off + 5, none⟩ = some (.int .i64 (y).at_) ∧ w'.cell? ⟨A2.block, A2.off + 6, none⟩ = some (.int .i64 (y).size) ∧ w'.cell? ⟨A2.block, A2.off + 7, none⟩ = some v.r ∧ w'.cell? ⟨A2.block, A2.off + 8, none⟩ = some v.w ∧ w'.cell? ⟨A2.block, A2.off + 9, none⟩ = some v.f) := Lib.hid fun w' z => by
                have h1 := KE.out _ (HX5.out.trans z)
                have h2 := h1.1.cells hlt
                have h3 := h1.1.cells hbl
                rw [← hx, ← hu, ← hA1] at h2
                rw [← hy, ← hv, ← hA2] at h3
                obtain ⟨a0, a1, a2, a3, a4, a5, a6, a7, a8, a9⟩ := h2
                exact ⟨h1.2.cells.1, a0, a1, a2, a3, a4, a5, a6, a7, a8, a9, h3⟩
              have KXY : Hid (EvAt w5 x u ∧ EvAt w5 y v) := Lib.hid ⟨by rw [hx, hu]; exact ((KE.out _ HX5.out).1).ev a hlt, by rw [hy, hv]; exact ((KE.out _ HX5.out).1).ev b hbl⟩
              have l5 := hya.fr.sl.run_len (P := Try.prog) II.und 3
              have J5 := Lib.hid (hya.fr.sl.run_idx (P := Try.prog) II.und II.size .i64)
              have h8 : (y.fr.length : Int) ≤ 8 := by have := may_small HM.out hbl; rw [← hy] at this; omega
              have HN := Lib.hid (And.intro hx (And.intro hy (And.intro hu hv)))
              clear hya hxa hy hv hx hu hA1 hA2
              go_wp2_with fail
              clear c0 c1
              go_loopw [7, 9] (fun s7 s9 wq => ∃ k : Nat, k ≤ y.fr.length ∧ s7 = .bool (anyB (rdP L a b) k) ∧ s9 = .int .i64 (k : Int) ∧ Ext w5 wq) (fun _ s _ => y.fr.length - (intOf s).toNat)
              case atStart => exact ⟨0, Nat.zero_le _, rfl, rfl, XW.out⟩
              case round =>
                obtain ⟨k, hk, rfl, rfl, xq⟩ := hrel
                have XQ := Lib.hid xq
                obtain ⟨⟨c0, c1⟩, c9, hya, -⟩ := KC.out _ xq
                clear xq
                by_cases hkl : k < y.fr.length
                · have hkl' : (k : Int) < (y.fr.length : Int) := by omega
                  have j0 := J5.out k hkl
                  simp only [Nat.mul_one] at j0
                  have cF := IntsAt.cell (l := y.fr) (v := v.f) (w := wr) hya.fr hkl
                  obtain ⟨TH, hTH⟩ : ∃ T, T = anyB (rdP L a b) k := ⟨_, rfl⟩
                  rw [← hTH]
                  cases TH with
                  | true =>
                    have HT : Hid (anyB (rdP L a b) (k + 1) = true) := Lib.hid (by rw [anyB_succ, ← hTH]; rfl)
                    clear hTH hya
                    go_wp2_with fail
                    go_roundw
                    case rel => exact ⟨k + 1, by omega, by rw [HT.out], by go_num, XQ.out⟩
                    case measure => simp [intOf]; omega
                  | false =>
                    have HT : Hid (anyB (rdP L a b) (k + 1) = (y.fr[k] == (a : Int))) := Lib.hid (by
                      rw [anyB_succ, ← hTH, Bool.false_or]
                      unfold rdP
                      rw [← HN.out.2.1, List.getD_eq_getElem?_getD, List.getElem?_eq_getElem hkl, Option.getD_some])
                    clear hTH hya
                    go_wp2_with fail
                    go_roundw
                    case rel => exact ⟨k + 1, by omega, by rw [HT.out], by go_num, XQ.out⟩
                    case measure => simp [intOf]; omega
                · have hkl' : ¬ (k : Int) < (y.fr.length : Int) := by omega
                  obtain ⟨RD, hRD⟩ : ∃ T, T = anyB (rdP L a b) k := ⟨_, rfl⟩
                  rw [← hRD]
                  have HRF : Hid (fromB L a b = RD) := Lib.hid (by rw [hRD, ← rdP_all, ← HN.out.2.1]; congr 1; omega)
                  clear hRD hya
                  go_wp2_with fail
                  clear c0 c1 c9
                  go_loopw [8, 10] (fun s8 s10 wq => ∃ k : Nat, k ≤ L.pr.length ∧ s8 = .bool (anyB (prP L a b) k) ∧ s10 = .int .i64 (k : Int) ∧ Ext w5 wq) (fun _ s _ => L.pr.length - (intOf s).toNat)
                  case atStart => exact ⟨0, Nat.zero_le _, rfl, rfl, XQ.out⟩
                  case round =>
                    obtain ⟨i, hi, rfl, rfl, xq⟩ := hrel
                    have XI := Lib.hid xq
                    obtain ⟨⟨c0, c1⟩, -, -, hlg⟩ := KC.out _ xq
                    clear xq
                    by_cases hil : i < L.pr.length
                    · have hil' : (i : Int) < (L.pr.length : Int) := by omega
                      have j0 := HJ.out i hil
                      obtain ⟨e0, e1⟩ := hlg.pcells hil
                      obtain ⟨n1, hn1⟩ : ∃ p, p = (prn L.pr i).1 := ⟨_, rfl⟩
                      obtain ⟨n2, hn2⟩ : ∃ p, p = (prn L.pr i).2 := ⟨_, rfl⟩
                      obtain ⟨A3, hA3⟩ : ∃ A, A = at_ vp (i * 2) := ⟨_, rfl⟩
                      rw [← hn1, ← hA3] at e0
                      rw [← hn2, ← hA3] at e1
                      rw [← hA3] at j0
                      obtain ⟨TH, hTH⟩ : ∃ T, T = anyB (prP L a b) i := ⟨_, rfl⟩
                      rw [← hTH]
                      have hstep : anyB (prP L a b) (i + 1) = (TH || ((n1 == (a : Int)) && (n2 == (b : Int)))) := by rw [anyB_succ, ← hTH]; unfold prP; rw [← hn1, ← hn2]
                      have HP := Lib.hid hstep
                      clear hTH hn1 hn2 hA3 hlg hstep
                      cases TH with
                      | true =>
                        go_wp2_with fail
                        go_roundw
                        case rel => exact ⟨i + 1, by omega, by rw [HP.out]; rfl, by go_num, XI.out⟩
                        case measure => simp [intOf]; omega
                      | false =>
                        by_cases hn : n1 = (a : Int)
                        · subst hn
                          go_wp2_with fail
                          go_roundw
                          case rel => exact ⟨i + 1, by omega, by rw [HP.out]; simp, by go_num, XI.out⟩
                          case measure => simp [intOf]; omega
                        · have hne : (n1 == (a : Int)) = false := by simpa using hn
                          clear hn
                          go_wp2_with fail
                          go_roundw
                          case rel => exact ⟨i + 1, by omega, by rw [HP.out, hne]; rfl, by go_num, XI.out⟩
                          case measure => simp [intOf]; omega
                    · have hil' : ¬ (i : Int) < (L.pr.length : Int) := by omega
                      obtain ⟨PD, hPD⟩ : ∃ T, T = anyB (prP L a b) i := ⟨_, rfl⟩
                      rw [← hPD]
                      have HPF : Hid (PD = L.pr.contains ((a : Int), (b : Int))) := Lib.hid (by rw [hPD, ← prP_all]; congr 1; omega)
                      clear hPD hlg
                      go_wp2_with fail
                      clear c0 c1
                      have XC0 := Lib.hid (XI.out)
                      have k1 := (ev_facts KXY.out.1).1
                      have k2 := (ev_facts KXY.out.1).2.1
                      have k3 := (ev_facts KXY.out.1).2.2.1
                      have k4 := (ev_facts KXY.out.2).1
                      have k5 := (ev_facts KXY.out.2).2.1
                      have k6 := (ev_facts KXY.out.2).2.2.1
                      go_upto_region 23 with fail
                      go_cut [11, 12] (fun s11 s12 wq => TwoEv wr x y u v s11 s12 wq)
                      case first =>
                        have ED : Ext wr (World.drew wr) := Mod.drew (Mod.refl _ _)
                        refine wp_region_planT [] (.take 0 0 (.take 1 0 (.take 2 0 (.take 3 0 (.take 4 0 (.take 5 0 (.take 6 0 (.take 7 0 (.take 8 0 (.take 9 0 (.fork (.alt 10 (.fork (.alt 11 (.fork (.alt 12 (.fork (.alt 13 .nil .noalt)) .noalt)) .noalt)) (.alt 11 (.fork (.alt 10 (.fork (.alt 12 (.fork (.alt 13 .nil .noalt)) .noalt)) .noalt)) .noalt))))))))))))) (fun w' => w'.cell? ⟨g0, 0, none⟩ = some ve ∧ w'.cell? A1 = some (.int .i64 (x).ag) ∧ w'.cell? ⟨A1.block, A1.off + 1, none⟩ = some (.int .i64 (x).kind) ∧ w'.cell? ⟨A1.block, A1.off + 2, none⟩ = some (.bool (x).seq) ∧ w'.cell? ⟨A1.block, A1.off + 3, none⟩ = some (.bool (x).nt) ∧ w'.cell? ⟨A1.block, A1.off + 4, none⟩ = some (.int .i64 (x).blk) ∧ w'.cell? ⟨A1.block, A1.off + 5, none⟩ = some (.int .i64 (x).at_) ∧ w'.cell? ⟨A1.block, A1.off + 6, none⟩ = some (.int .i64 (x).size) ∧ w'.cell? ⟨A1.block, A1.off + 7, none⟩ = some u.r ∧ w'.cell? ⟨A1.block, A1.off + 8, none⟩ = some u.w ∧ w'.cell? ⟨A1.block, A1.off + 9, none⟩ = some u.f ∧ w'.cell? A2 = some (.int .i64 (y).ag) ∧ w'.cell? ⟨A2.block, A2.off + 1, none⟩ = some (.int .i64 (y).kind) ∧ w'.cell? ⟨A2.block, A2.off + 2, none⟩ = some (.bool (y).seq) ∧ w'.cell? ⟨A2.block, A2.off + 3, none⟩ = some (.bool (y).nt) ∧ w'.cell? ⟨A2.block, A2.off + 4, none⟩ = some (.int .i64 (y).blk) ∧ w'.cell? ⟨A2.block, A2.off + 5, none⟩ = some (.int .i64 (y).at_) ∧ w'.cell? ⟨A2.block, A2.off + 6, none⟩ = some (.int .i64 (y).size) ∧ w'.cell? ⟨A2.block, A2.off + 7, none⟩ = some v.r ∧ w'.cell? ⟨A2.block, A2.off + 8, none⟩ = some v.w ∧ w'.cell? ⟨A2.block, A2.off + 9, none⟩ = some v.f) (by kernel_rfl) (by kernel_rfl) (by kernel_rfl) (fun _ d _ _ _ h => by cases d <;> exact h) (KF2.out _ (XI.out.trans ED)) ?_
                        simp (decide := true) only [planT, getO]
                        (refine planT_take (v := ?_) (by rfl) (fun wS hS => ?_) ?_; rotate_left; (focus ((try dsimp only at hS); go_simp; (try with_reducible rfl); done)); (try simp only [Act.put, List.setIfInBounds_toArray, List.set_cons_zero, List.set_cons_succ]))
                        (refine planT_take (v := ?_) (by rfl) (fun wS hS => ?_) ?_; rotate_left; (focus ((try dsimp only at hS); go_simp; (try with_reducible rfl); done)); (try simp only [Act.put, List.setIfInBounds_toArray, List.set_cons_zero, List.set_cons_succ]))
                        (refine planT_take (v := ?_) (by rfl) (fun wS hS => ?_) ?_; rotate_left; (focus ((try dsimp only at hS); go_simp; (try with_reducible rfl); done)); (try simp only [Act.put, List.setIfInBounds_toArray, List.set_cons_zero, List.set_cons_succ]))
                        (refine planT_take (v := ?_) (by rfl) (fun wS hS => ?_) ?_; rotate_left; (focus ((try dsimp only at hS); go_simp; (try with_reducible rfl); done)); (try simp only [Act.put, List.setIfInBounds_toArray, List.set_cons_zero, List.set_cons_succ]))
                        (refine planT_take (v := ?_) (by rfl) (fun wS hS => ?_) ?_; rotate_left; (focus ((try dsimp only at hS); go_simp; (try with_reducible rfl); done)); (try simp only [Act.put, List.setIfInBounds_toArray, List.set_cons_zero, List.set_cons_succ]))
                        (refine planT_take (v := ?_) (by rfl) (fun wS hS => ?_) ?_; rotate_left; (focus ((try dsimp only at hS); go_simp; (try with_reducible rfl); done)); (try simp only [Act.put, List.setIfInBounds_toArray, List.set_cons_zero, List.set_cons_succ]))
                        (refine planT_take (v := ?_) (by rfl) (fun wS hS => ?_) ?_; rotate_left; (focus ((try dsimp only at hS); go_simp; (try with_reducible rfl); done)); (try simp only [Act.put, List.setIfInBounds_toArray, List.set_cons_zero, List.set_cons_succ]))
                        (refine planT_take (v := ?_) (by rfl) (fun wS hS => ?_) ?_; rotate_left; (focus ((try dsimp only at hS); go_simp; (try with_reducible rfl); done)); (try simp only [Act.put, List.setIfInBounds_toArray, List.set_cons_zero, List.set_cons_succ]))
                        (refine planT_take (v := ?_) (by rfl) (fun wS hS => ?_) ?_; rotate_left; (focus ((try dsimp only at hS); go_simp; (try with_reducible rfl); done)); (try simp only [Act.put, List.setIfInBounds_toArray, List.set_cons_zero, List.set_cons_succ]))
                        (refine planT_take (v := ?_) (by rfl) (fun wS hS => ?_) ?_; rotate_left; (focus ((try dsimp only at hS); go_simp; (try with_reducible rfl); done)); (try simp only [Act.put, List.setIfInBounds_toArray, List.set_cons_zero, List.set_cons_succ]))
                        refine planT_fork ?_
                        refine planT_alloc rfl rfl (fun w => Try.zeroValue46 w) rfl (fun g1 w1 y1 hg1 hs1 hb1 => ?_) ?_
                        · have E1 : Ext wr w1 := Mod.trans ED y1
                          have HG1 := Lib.hid (And.intro hg1 (And.intro hs1 (And.intro hb1 (And.intro E1 (And.intro y1 ED)))))
                          clear hg1 hs1 hb1
                          refine ⟨fun _ => KF2.out _ (XI.out.trans E1), ?_⟩
                          (try simp only [Act.put, List.setIfInBounds_toArray, List.set_cons_zero, List.set_cons_succ])
                          refine planT_fork ?_
                          refine planT_alloc rfl rfl (fun w => Try.zeroValue46 w) rfl (fun g2 w2 y2 hg2 hs2 hb2 => ?_) planT_end
                          have E2 : Ext wr w2 := Mod.trans E1 y2
                          have HG2 := Lib.hid (And.intro hg2 (And.intro hs2 (And.intro hb2 (And.intro E2 (And.intro y2 E1)))))
                          clear hg2 hs2 hb2
                          refine ⟨fun _ => KF2.out _ (XI.out.trans E2), ?_⟩
                          (try simp only [Act.put, List.setIfInBounds_toArray, List.set_cons_zero, List.set_cons_succ])
                          refine planT_fork ?_
                          refine planT_store rfl rfl rfl rfl ((Ext.blk y2 HG1.out.2.2.1)) (by kernel_rfl) rfl (evArr_all (Sl.one (KXY.out.1).rd) (Sl.one (KXY.out.1).wr) (Sl.one (KXY.out.1).fr.sl)) (fun w3 m3 hs3 hb3 => ?_) planT_end
                          have E3 : Ext wr w3 := Mod.trans' E2 m3 (fun q hq => .inr (by obtain ⟨z1a, z1b, -, z1e, z1y, z1p⟩ := HG1.out; have z1f := z1e.size; have z1g := z1y.size; have z1q := z1p.size; obtain ⟨z2a, z2b, -, z2e, z2y, z2p⟩ := HG2.out; have z2f := z2e.size; have z2g := z2y.size; have z2q := z2p.size; have sy1 := y1.size; have sy2 := y2.size; subst hq; omega))
                          have HG3 := Lib.hid (And.intro hs3 (And.intro hb3 m3))
                          clear hs3 hb3
                          refine ⟨fun _ => KF2.out _ (XI.out.trans E3), ?_⟩
                          (try simp only [Act.put])
                          refine planT_fork ?_
                          refine planT_store rfl rfl rfl rfl ((Mod.blk m3 HG2.out.2.2.1 (by obtain ⟨z1a, z1b, -, z1e, z1y, z1p⟩ := HG1.out; have z1f := z1e.size; have z1g := z1y.size; have z1q := z1p.size; obtain ⟨z2a, z2b, -, z2e, z2y, z2p⟩ := HG2.out; have z2f := z2e.size; have z2g := z2y.size; have z2q := z2p.size; have sy1 := y1.size; have sy2 := y2.size; omega))) (by kernel_rfl) rfl (evArr_all (Sl.one (KXY.out.2).rd) (Sl.one (KXY.out.2).wr) (Sl.one (KXY.out.2).fr.sl)) (fun w4 m4 hs4 hb4 => ?_) planT_end
                          have E4 : Ext wr w4 := Mod.trans' E3 m4 (fun q hq => .inr (by obtain ⟨z1a, z1b, -, z1e, z1y, z1p⟩ := HG1.out; have z1f := z1e.size; have z1g := z1y.size; have z1q := z1p.size; obtain ⟨z2a, z2b, -, z2e, z2y, z2p⟩ := HG2.out; have z2f := z2e.size; have z2g := z2y.size; have z2q := z2p.size; have sy1 := y1.size; have sy2 := y2.size; subst hq; omega))
                          have HG4 := Lib.hid (And.intro hs4 (And.intro hb4 m4))
                          clear hs4 hb4
                          refine ⟨fun _ => KF2.out _ (XI.out.trans E4), ?_⟩
                          (try simp only [Act.put])
                          refine planT_nil ?_
                          go_wp2_with fail
                          go_meet
                          exact ⟨g1, g2, rfl, rfl, ⟨(Mod.blk m4 HG3.out.2.1 (by obtain ⟨z1a, z1b, -, z1e, z1y, z1p⟩ := HG1.out; have z1f := z1e.size; have z1g := z1y.size; have z1q := z1p.size; obtain ⟨z2a, z2b, -, z2e, z2y, z2p⟩ := HG2.out; have z2f := z2e.size; have z2g := z2y.size; have z2q := z2p.size; have sy1 := y1.size; have sy2 := y2.size; omega))⟩, ⟨HG4.out.2.1⟩, E4⟩
                        refine planT_alloc rfl rfl (fun w => Try.zeroValue46 w) rfl (fun g5 w5 y5 hg5 hs5 hb5 => ?_) planT_end
                        have E5 : Ext wr w5 := Mod.trans ED y5
                        have HG5 := Lib.hid (And.intro hg5 (And.intro hs5 (And.intro hb5 (And.intro E5 (And.intro y5 ED)))))
                        clear hg5 hs5 hb5
                        refine ⟨fun _ => KF2.out _ (XI.out.trans E5), ?_⟩
                        (try simp only [Act.put, List.setIfInBounds_toArray, List.set_cons_zero, List.set_cons_succ])
                        refine planT_fork ?_
                        refine planT_alloc rfl rfl (fun w => Try.zeroValue46 w) rfl (fun g6 w6 y6 hg6 hs6 hb6 => ?_) planT_end
                        have E6 : Ext wr w6 := Mod.trans E5 y6
                        have HG6 := Lib.hid (And.intro hg6 (And.intro hs6 (And.intro hb6 (And.intro E6 (And.intro y6 E5)))))
                        clear hg6 hs6 hb6
                        refine ⟨fun _ => KF2.out _ (XI.out.trans E6), ?_⟩
                        (try simp only [Act.put, List.setIfInBounds_toArray, List.set_cons_zero, List.set_cons_succ])
                        refine planT_fork ?_
                        refine planT_store rfl rfl rfl rfl (HG6.out.2.2.1) (by kernel_rfl) rfl (evArr_all (Sl.one (KXY.out.1).rd) (Sl.one (KXY.out.1).wr) (Sl.one (KXY.out.1).fr.sl)) (fun w7 m7 hs7 hb7 => ?_) planT_end
                        have E7 : Ext wr w7 := Mod.trans' E6 m7 (fun q hq => .inr (by obtain ⟨z5a, z5b, -, z5e, z5y, z5p⟩ := HG5.out; have z5f := z5e.size; have z5g := z5y.size; have z5q := z5p.size; obtain ⟨z6a, z6b, -, z6e, z6y, z6p⟩ := HG6.out; have z6f := z6e.size; have z6g := z6y.size; have z6q := z6p.size; have sy5 := y5.size; have sy6 := y6.size; subst hq; omega))
                        have HG7 := Lib.hid (And.intro hs7 (And.intro hb7 m7))
                        clear hs7 hb7
                        refine ⟨fun _ => KF2.out _ (XI.out.trans E7), ?_⟩
                        (try simp only [Act.put])
                        refine planT_fork ?_
                        refine planT_store rfl rfl rfl rfl ((Mod.blk m7 (Ext.blk y6 HG5.out.2.2.1) (by obtain ⟨z5a, z5b, -, z5e, z5y, z5p⟩ := HG5.out; have z5f := z5e.size; have z5g := z5y.size; have z5q := z5p.size; obtain ⟨z6a, z6b, -, z6e, z6y, z6p⟩ := HG6.out; have z6f := z6e.size; have z6g := z6y.size; have z6q := z6p.size; have sy5 := y5.size; have sy6 := y6.size; omega))) (by kernel_rfl) rfl (evArr_all (Sl.one (KXY.out.2).rd) (Sl.one (KXY.out.2).wr) (Sl.one (KXY.out.2).fr.sl)) (fun w8 m8 hs8 hb8 => ?_) planT_end
                        have E8 : Ext wr w8 := Mod.trans' E7 m8 (fun q hq => .inr (by obtain ⟨z5a, z5b, -, z5e, z5y, z5p⟩ := HG5.out; have z5f := z5e.size; have z5g := z5y.size; have z5q := z5p.size; obtain ⟨z6a, z6b, -, z6e, z6y, z6p⟩ := HG6.out; have z6f := z6e.size; have z6g := z6y.size; have z6q := z6p.size; have sy5 := y5.size; have sy6 := y6.size; subst hq; omega))
                        have HG8 := Lib.hid (And.intro hs8 (And.intro hb8 m8))
                        clear hs8 hb8
                        refine ⟨fun _ => KF2.out _ (XI.out.trans E8), ?_⟩
                        (try simp only [Act.put])
                        refine planT_nil ?_
                        go_wp2_with fail
                        go_meet
                        exact ⟨g6, g5, rfl, rfl, ⟨(Mod.blk m8 HG7.out.2.1 (by obtain ⟨z5a, z5b, -, z5e, z5y, z5p⟩ := HG5.out; have z5f := z5e.size; have z5g := z5y.size; have z5q := z5p.size; obtain ⟨z6a, z6b, -, z6e, z6y, z6p⟩ := HG6.out; have z6f := z6e.size; have z6g := z6y.size; have z6q := z6p.size; have sy5 := y5.size; have sy6 := y6.size; omega))⟩, ⟨HG8.out.2.1⟩, E8⟩
                      case rest =>
                        obtain ⟨b1, b2, rfl, rfl, hc, KB⟩ := hcut.keep (KXY.out.1.ext XI.out) (KXY.out.2.ext XI.out)
                        have XC := Lib.hid (XI.out.trans hc)
                        obtain ⟨S1, hS1⟩ : ∃ S, S = x.seq := ⟨_, rfl⟩
                        obtain ⟨S2, hS2⟩ : ∃ S, S = y.seq := ⟨_, rfl⟩
                        obtain ⟨Q, hQ⟩ : ∃ Q, Q = evEq x y := ⟨_, rfl⟩
                        have HQ : Hid (evEq ⟨x.ag, x.kind, true, x.nt, x.blk, x.at_, x.size, x.rd, x.wr, x.fr⟩ ⟨y.ag, y.kind, true, y.nt, y.blk, y.at_, y.size, y.rd, y.wr, y.fr⟩ = Q) := Lib.hid hQ.symm
                        have HLAW : Hid (synB L a b = (PD || (RD && S1 && S2 && Q))) := Lib.hid (parts_law HRF.out.symm HPF.out (by rw [hS1, HN.out.1]) (by rw [hS2, HN.out.2.1]) (by rw [hQ, HN.out.1, HN.out.2.1]))
                        rw [← hS1, ← hS2] at KB
                        clear hS1 hS2 hQ hcut hc
                        cases RD with
                        | false =>
                          go_wp2_with fail
                          refine (has_any _ _ _ _ (KR.out _ XC.out).1 a b).mono ?_
                          rintro e v1 ⟨rfl, z1⟩
                          have XV1 := Lib.hid (XC.out.trans z1)
                          have Z1 := Lib.hid z1
                          rw [hasB_nat hlt hbl, HRF.out]
                          clear z1
                          cases PD with
                          | true =>
                            go_wp2_with fail
                            refine (has_any _ _ _ _ (KR.out _ XV1.out).2 a b).mono ?_
                            rintro e v2 ⟨rfl, z2⟩
                            have XV2 := Lib.hid (XV1.out.trans z2)
                            have Z2 := Lib.hid z2
                            rw [hasB_nat hlt hbl, HLAW.out]
                            clear z2
                            go_wp2_with fail
                            go_roundw
                            case rel => exact ⟨b + 1, by omega, by go_num, XV2.out⟩
                            case measure => simp [intOf]; omega
                          | false =>
                            go_wp2_with fail
                            refine (has_any _ _ _ _ (KR.out _ XV1.out).2 a b).mono ?_
                            rintro e v2 ⟨rfl, z2⟩
                            have XV2 := Lib.hid (XV1.out.trans z2)
                            have Z2 := Lib.hid z2
                            rw [hasB_nat hlt hbl, HLAW.out]
                            clear z2
                            go_wp2_with fail
                            go_roundw
                            case rel => exact ⟨b + 1, by omega, by go_num, XV2.out⟩
                            case measure => simp [intOf]; omega
                        | true =>
                          go_wp2_with fail
                          refine (has_any _ _ _ _ (KR.out _ XC.out).1 a b).mono ?_
                          rintro e v1 ⟨rfl, z1⟩
                          have XV1 := Lib.hid (XC.out.trans z1)
                          have Z1 := Lib.hid z1
                          rw [hasB_nat hlt hbl, HRF.out]
                          clear z1
                          cases PD with
                          | true =>
                            go_wp2_with fail
                            refine (has_any _ _ _ _ (KR.out _ XV1.out).2 a b).mono ?_
                            rintro e v2 ⟨rfl, z2⟩
                            have XV2 := Lib.hid (XV1.out.trans z2)
                            have Z2 := Lib.hid z2
                            rw [hasB_nat hlt hbl, HLAW.out]
                            clear z2
                            go_wp2_with fail
                            go_roundw
                            case rel => exact ⟨b + 1, by omega, by go_num, XV2.out⟩
                            case measure => simp [intOf]; omega
                          | false =>
                            cases S1 with
                            | false =>
                              go_wp2_with fail
                              refine (has_any _ _ _ _ (KR.out _ XV1.out).2 a b).mono ?_
                              rintro e v2 ⟨rfl, z2⟩
                              have XV2 := Lib.hid (XV1.out.trans z2)
                              have Z2 := Lib.hid z2
                              rw [hasB_nat hlt hbl, HLAW.out]
                              clear z2
                              obtain ⟨⟨d0, d1, d2, d3, d4, d5, d6, d7, d8, d9⟩, -⟩ := KB.out _ (Z1.out.trans Z2.out)
                              go_wp2_with fail
                              go_roundw
                              case rel => exact ⟨b + 1, by omega, by go_num, XV2.out⟩
                              case measure => simp [intOf]; omega
                            | true =>
                              cases S2 with
                              | false =>
                                go_wp2_with fail
                                refine (has_any _ _ _ _ (KR.out _ XV1.out).2 a b).mono ?_
                                rintro e v2 ⟨rfl, z2⟩
                                have XV2 := Lib.hid (XV1.out.trans z2)
                                have Z2 := Lib.hid z2
                                rw [hasB_nat hlt hbl, HLAW.out]
                                clear z2
                                obtain ⟨⟨d0, d1, d2, d3, d4, d5, d6, d7, d8, d9⟩, ⟨f0, f1, f2, f3, f4, f5, f6, f7, f8, f9⟩, -⟩ := KB.out _ (Z1.out.trans Z2.out)
                                go_wp2_with fail
                                go_roundw
                                case rel => exact ⟨b + 1, by omega, by go_num, XV2.out⟩
                                case measure => simp [intOf]; omega
                              | true =>
                                go_wp2_with fail
                                refine (has_any _ _ _ _ (KR.out _ XV1.out).2 a b).mono ?_
                                rintro e v2 ⟨rfl, z2⟩
                                have XV2 := Lib.hid (XV1.out.trans z2)
                                have Z2 := Lib.hid z2
                                rw [hasB_nat hlt hbl, HLAW.out]
                                clear z2
                                obtain ⟨⟨d0, d1, d2, d3, d4, d5, d6, d7, d8, d9⟩, ⟨f0, f1, f2, f3, f4, f5, f6, f7, f8, f9⟩, -⟩ := KB.out _ (Z1.out.trans Z2.out)
                                go_wp2_with fail
                                refine (equal_any _ ⟨x.ag, x.kind, true, x.nt, x.blk, x.at_, x.size, x.rd, x.wr, x.fr⟩ ⟨y.ag, y.kind, true, y.nt, y.blk, y.at_, y.size, y.rd, y.wr, y.fr⟩ u v (KB.out _ (Z1.out.trans Z2.out)).2.2.1 (KB.out _ (Z1.out.trans Z2.out)).2.2.2).mono ?_
                                rintro en v3 ⟨rfl, z3⟩
                                have XV3 := Lib.hid (XV2.out.trans z3)
                                rw [HQ.out]
                                clear z3
                                cases Q with
                                | false =>
                                  go_wp2_with fail
                                  go_roundw
                                  case rel => exact ⟨b + 1, by omega, by go_num, XV3.out⟩
                                  case measure => simp [intOf]; omega
                                | true =>
                                  go_wp2_with fail
                                  go_roundw
                                  case rel => exact ⟨b + 1, by omega, by go_num, XV3.out⟩
                                  case measure => simp [intOf]; omega
            · have hbl' : ¬ (b : Int) < (L.ev.length : Int) := by omega
              go_wp2_with fail
              go_roundw
              case rel => exact ⟨a + 1, by omega, by go_num, XW.out⟩
              case measure => simp [intOf]; omega
        · have hlt' : ¬ (a : Int) < (L.ev.length : Int) := by omega
          go_wp2_with fail
          refine (first15_any _).mono ?_
          rintro e w7 ⟨rfl, y7⟩
          go_wp2_with fail
          go_ret
          exact ⟨rfl, HW.out.2.2.trans (HX5.out.trans (XA.out.trans y7))⟩
end Go.Proofs.Ytkibdabbjbcboaa
