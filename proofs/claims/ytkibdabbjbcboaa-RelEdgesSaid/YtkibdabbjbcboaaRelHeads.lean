/-
  RelHeads: the walk of renlaw15.RelHeads. No condition.
-/
import Derived.Test.YtkibdabbjbcboaaRelHeadsLaw
import Derived.Test.YtkibdabbjbcboaaEvHeads
namespace Go.Proofs.Ytkibdabbjbcboaa
open Go.Ren Go.RowKit
set_option linter.unusedVariables false

set_option maxRecDepth 100000 in
set_option maxHeartbeats 1600000 in
theorem relHeads_all (w : World) (ve vp : Value) (V : Nat → Vs) (L : Lg) (h : LogIn w ve vp V L) (n : Int) (hn : I64 n) :
    Calls Try.prog 13 #[.agg #[ve, vp], .int .i64 n] w (FPost true w) := by
  have HNI := Lib.hid hn
  clear hn
  have q1 := Sl.cells_eq h.row
  have q2 := Sl.cells_eq h.prow
  have s1 := Sl.run_st (P := Try.prog) h.row
  have s2 := Sl.run_st (P := Try.prog) h.prow
  obtain ⟨w0, hw0⟩ : ∃ w0, w0 = w.alloc (.cells #[ve, vp] 25) := ⟨_, rfl⟩
  obtain ⟨g0, hg0⟩ : ∃ g, g = w.heap.size := ⟨_, rfl⟩
  have x0 : Ext w w0 := by rw [hw0]; exact (Mod.refl _ _).alloc _
  have b0 : LogBox w0 g0 ve vp := ⟨by rw [hw0, hg0]; exact heap_alloc_new _ _⟩
  have HW := Lib.hid (And.intro hw0 (And.intro hg0 x0))
  have KE : Hid (∀ w', Ext w0 w' → LogIn w' ve vp V L ∧ LogBox w' g0 ve vp) := Lib.hid fun w' x => ⟨h.ext (x0.trans x), b0.ext x⟩
  have HI := Lib.hid (h.row.run_idx (P := Try.prog) IEv.und IEv.size .i64)
  have HJ := Lib.hid (h.prow.run_idx (P := Try.prog) IP.und IP.size .i64)
  have l1 := h.row.run_len (P := Try.prog) IEv.und 3
  have l2 := h.prow.run_len (P := Try.prog) IP.und 3
  clear hw0 hg0 x0 b0 h
  go_enter Try.func13, Try.ntmps13
  go_upto_region 1 with fail
  rw [← HW.out.1, ← HW.out.2.1]
  clear s1 s2
  go_wp2_with fail
  refine (first15_any _).mono ?_
  rintro e w1 ⟨rfl, x1⟩
  obtain ⟨c0, c1⟩ := (KE.out _ x1).2.cells
  go_wp2_with fail
  refine (few_any _ _ _ V L (KE.out _ x1).1 60 (by decide)).mono ?_
  rintro r w2 ⟨⟨r, rfl, hf⟩, y2⟩
  have X2 : Ext w0 w2 := x1.trans y2
  clear c0 c1
  obtain ⟨c0, c1⟩ := (KE.out _ X2).2.cells
  cases r with
  | false =>
    clear hf
    go_wp2_with fail
    refine (first15_any _).mono ?_
    rintro e w3 ⟨rfl, x3⟩
    go_wp2_with fail
    go_ret
    exact ⟨rfl, (HW.out.2.2.trans X2).trans x3⟩
  | true =>
    have HS : Hid (L.ev.length ≤ 60 ∧ L.pr.length ≤ 60 ∧ ∀ i, i < L.ev.length → (evn L.ev i).rd.length ≤ 20000 ∧ (evn L.ev i).wr.length ≤ 20000 ∧ (evn L.ev i).fr.length ≤ 20000) := Lib.hid (hf rfl)
    have hle : (L.ev.length : Int) ≤ 60 := by have := HS.out.1; omega
    have hle2 : (L.pr.length : Int) ≤ 60 := by have := HS.out.2.1; omega
    clear hf
    go_wp2_with fail
    refine (may_any _ ve vp V L (KE.out _ X2).1).mono ?_
    rintro e w3 ⟨rfl, y3⟩
    have X3 : Ext w0 w3 := X2.trans y3
    clear c0 c1
    obtain ⟨c0, c1⟩ := (KE.out _ X3).2.cells
    cases hm : mayL L with
    | false =>
      clear hm
      go_wp2_with fail
      refine (first15_any _).mono ?_
      rintro e w4 ⟨rfl, x4⟩
      go_wp2_with fail
      go_ret
      exact ⟨rfl, (HW.out.2.2.trans X3).trans x4⟩
    | true =>
      have HM := Lib.hid hm
      clear hm
      have KF : Hid (∀ w', Ext w3 w' → w'.cell? ⟨g0, 0, none⟩ = some ve ∧ w'.cell? ⟨g0, 1, none⟩ = some vp) := Lib.hid fun w' x => (KE.out _ (X3.trans x)).2.cells
      clear c0 c1
      go_upto_region 5 with fail
      refine wp_region_plan [(0, true), (2, true), (3, true), (1, false), (4, false), (5, false), (6, true), (7, true)] (fun w' => w'.cell? ⟨g0, 0, none⟩ = some ve ∧ w'.cell? ⟨g0, 1, none⟩ = some vp) (by kernel_rfl) (by kernel_rfl) (by kernel_rfl) (fun _ d _ _ _ h => by cases d <;> exact h) (KF.out _ (Mod.drew (Mod.refl _ _))) ?_
      simp only [planL, getO]
      iterate 3 (refine plan_take (v := ?_) (by rfl) (fun wS hS => ?_) ?_; rotate_left; (focus ((try dsimp only at hS); go_simp; (try with_reducible rfl); done)); (try simp only [Act.put, List.setIfInBounds_toArray, List.set_cons_zero, List.set_cons_succ]))
      refine plan_call (fun K hK => ?_)
      go_simp
      go_at_call 17; refine (rbefore_any _ ve vp V L (KE.out _ (X3.trans (Mod.drew (Mod.refl _ _)))).1 (by have := HS.out.1; omega)).mono ?_; rintro e w4 h4; obtain ⟨p4, rfl, r4, y4⟩ := rpost_is h4; have E4 : Ext w3 w4 := Mod.trans (Mod.drew (Mod.refl _ _)) y4; rw [relN_may HM.out] at r4; have HR4 := Lib.hid r4; clear h4 r4
      refine hK.out _ _ (KF.out _ E4) ?_
      clear hK K
      (try simp only [Act.put, List.setIfInBounds_toArray, List.set_cons_zero, List.set_cons_succ])
      refine plan_call (fun K hK => ?_)
      go_simp
      go_at_call 40; refine (head_any _ ve vp V L (KE.out _ (X3.trans E4)).1 n HNI.out ⟨by have := HS.out.1; omega, by have := HS.out.2.1; omega, HS.out.2.2⟩).mono ?_; rintro r w5 ⟨hv, pv, V5, rfl, o5, y5, -⟩; have l5 := head_in (KE.out _ (X3.trans E4)).1 o5; have E5 : Ext w3 w5 := Mod.trans E4 y5; have H5 := Lib.hid l5; clear o5 l5
      refine hK.out _ _ (KF.out _ E5) ?_
      clear hK K
      (try simp only [Act.put, List.setIfInBounds_toArray, List.set_cons_zero, List.set_cons_succ])
      refine plan_call (fun K hK => ?_)
      go_simp
      go_at_call 17; refine (rbefore_any _ hv pv V5 (headL L n) H5.out (by have := HS.out.1; have := headN_le L n; rw [head_evlen]; omega)).mono ?_; rintro e w6 h6; obtain ⟨p6, rfl, r6, y6⟩ := rpost_is h6; have E6 : Ext w3 w6 := Mod.trans E5 y6; rw [relN_may (mayL_head HM.out n), head_evlen] at r6; have HR6 := Lib.hid r6; clear h6 r6
      refine hK.out _ _ (KF.out _ E6) ?_
      clear hK K
      (try simp only [Act.put, List.setIfInBounds_toArray, List.set_cons_zero, List.set_cons_succ])
      iterate 2 (refine plan_take (v := ?_) (by rfl) (fun wS hS => ?_) ?_; rotate_left; (focus ((try dsimp only at hS); go_simp; (try with_reducible rfl); done)); (try simp only [Act.put, List.setIfInBounds_toArray, List.set_cons_zero, List.set_cons_succ]))
      refine plan_nil ?_
      have KR : Hid (∀ w', Ext w6 w' → RelIs w' (.pointer (some ⟨p4, 0, none⟩)) L.ev.length (hbB L) ∧ RelIs w' (.pointer (some ⟨p6, 0, none⟩)) (headN L n) (hbB (headL L n))) := Lib.hid fun w' x => ⟨HR4.out.ext (y5.trans (y6.trans x)), HR6.out.ext x⟩
      have HX6 := Lib.hid (X3.trans E6)
      obtain ⟨c0, c1⟩ := (KE.out _ HX6.out).2.cells
      obtain ⟨N, hN⟩ : ∃ N, N = headN L n := ⟨_, rfl⟩
      rw [← hN] at KR
      have mx := fun (ty : TypeId) (w : World) => run_maxI (P := Try.prog) n 0 #[3, 3] ty w
      have mn : ∀ (ty : TypeId) (w : World), (Builtin.min_ #[3, 3] ty #[.int .i64 (max n 0), .int .i64 (L.ev.length : Int)]).run Try.prog w = .ok (.int .i64 (N : Int)) w := fun ty w => by
        rw [run_minI, hN]
        unfold headN
        congr 2
        omega
      have hNle : (N : Int) ≤ 60 := by have := headN_le L n; omega
      have HN := Lib.hid (And.intro hN (headN_le L n))
      clear hN
      go_wp2_with fail
      clear c0 c1
      go_loopw [8] (fun s wr => ∃ a : Nat, a ≤ N ∧ s = .int .i64 (a : Int) ∧ Ext w6 wr) (fun s _ => N - (intOf s).toNat)
      case atStart => exact ⟨0, Nat.zero_le _, rfl, Mod.refl _ _⟩
      case round =>
        obtain ⟨a, ha, rfl, x⟩ := hrel
        have XA := Lib.hid x
        clear x
        by_cases hlt : a < N
        · have hlt' : (a : Int) < (N : Int) := by omega
          go_wp2_with fail
          go_loopw [9] (fun s wr => ∃ b : Nat, b ≤ N ∧ s = .int .i64 (b : Int) ∧ Ext w6 wr) (fun s _ => N - (intOf s).toNat)
          case atStart => exact ⟨0, Nat.zero_le _, rfl, XA.out⟩
          case round =>
            obtain ⟨b, hb, rfl, x⟩ := hrel
            have XW := Lib.hid x
            clear x
            by_cases hbl : b < N
            · have hbl' : (b : Int) < (N : Int) := by omega
              obtain ⟨B, hB⟩ : ∃ B, B = hbB L a b := ⟨_, rfl⟩
              have H1 : Hid (hasB L.ev.length (hbB L) (a : Int) (b : Int) = B) := Lib.hid (by have := HN.out; rw [hasB_nat (by omega) (by omega), hB])
              have H2 : Hid (hasB N (hbB (headL L n)) (a : Int) (b : Int) = B) := Lib.hid (by rw [hasB_nat hlt hbl, hB]; exact head_hb (by rw [← HN.out.1]; exact hbl))
              clear hB
              go_wp2_with fail
              refine (has_any _ _ _ _ (KR.out _ XW.out).1 a b).mono ?_
              rintro e v1 ⟨rfl, z3⟩
              have XV1 := Lib.hid (XW.out.trans z3)
              rw [H1.out]
              clear z3
              go_wp2_with fail
              refine (has_any _ _ _ _ (KR.out _ XV1.out).2 a b).mono ?_
              rintro e v2 ⟨rfl, z3⟩
              have XV2 := Lib.hid (XV1.out.trans z3)
              rw [H2.out]
              clear z3
              have hnb : (B != B) = false := by simp
              go_wp2_with fail
              go_roundw
              case rel => exact ⟨b + 1, by omega, by go_num, XV2.out⟩
              case measure => simp [intOf]; omega
            · have hbl' : ¬ (b : Int) < (N : Int) := by omega
              go_wp2_with fail
              go_roundw
              case rel => exact ⟨a + 1, by omega, by go_num, XW.out⟩
              case measure => simp [intOf]; omega
        · have hlt' : ¬ (a : Int) < (N : Int) := by omega
          go_wp2_with fail
          refine (first15_any _).mono ?_
          rintro e w7 ⟨rfl, y7⟩
          go_wp2_with fail
          refine (rlen_any _ _ _ _ (KR.out _ (XA.out.trans y7)).2).mono ?_
          rintro e w8 ⟨rfl, rfl⟩
          go_wp2_with fail
          go_ret
          exact ⟨rfl, HW.out.2.2.trans (HX6.out.trans (XA.out.trans y7))⟩
end Go.Proofs.Ytkibdabbjbcboaa
