/-
  ModelHeads: the walk of renlaw16.ModelHeads. No condition.
-/
import Derived.Test.YthmkcgiiakinmaaModFst
import Derived.Test.YthmkcgiiakinmaaModLaws
namespace Go.Ren
theorem cohI_range (L : Lg) : -1 ≤ cohI L ∧ cohI L ≤ L.ev.length := by
  unfold cohI
  split
  · rcases fstN_cases (cohB L) L.ev.length with ⟨h, _⟩ | ⟨k, h1, h2, _⟩ <;> omega
  · omega
theorem tearI_range (L : Lg) : -1 ≤ tearI L ∧ tearI L ≤ L.ev.length := by
  unfold tearI
  split
  · rcases fstN_cases (tearB L) L.ev.length with ⟨h, _⟩ | ⟨k, h1, h2, _⟩ <;> omega
  · omega
end Go.Ren
namespace Go.Proofs.Ythmkcgiiakinmaa
open Go.Ren Go.RowKit
set_option linter.unusedVariables false
set_option maxRecDepth 100000 in
set_option maxHeartbeats 3200000 in
theorem modelHeads_all (w : World) (ve vp : Value) (V : Nat → Vs) (L : Lg) (h : LogIn w ve vp V L) (n : Int) (hn : I64 n) :
    Calls Try.prog 12 #[.agg #[ve, vp], .int .i64 n] w (FPost true w) := by
  have HNI := Lib.hid hn
  clear hn
  have q1 := Sl.cells_eq h.row
  have q2 := Sl.cells_eq h.prow
  have s1 := Sl.run_st (P := Try.prog) h.row
  have s2 := Sl.run_st (P := Try.prog) h.prow
  obtain ⟨w0, hw0⟩ : ∃ w0, w0 = w.alloc (.cells #[ve, vp] 25) := ⟨_, rfl⟩
  obtain ⟨g0, hg0⟩ : ∃ g, g = w.heap.size := ⟨_, rfl⟩
  have x0 : Ext w w0 := by rw [hw0]; exact (Mod.refl _ _).alloc _
  have b0 : LogBox w0 g0 ve vp := ⟨by rw [hw0, hg0]; exact heap_alloc_new _ _⟩
  have HW := Lib.hid (And.intro hw0 (And.intro hg0 x0))
  have KE : Hid (∀ w', Ext w0 w' → LogIn w' ve vp V L ∧ LogBox w' g0 ve vp) := Lib.hid fun w' x => ⟨h.ext (x0.trans x), b0.ext x⟩
  have HI := Lib.hid (h.row.run_idx (P := Try.prog) IEv.und IEv.size .i64)
  have HJ := Lib.hid (h.prow.run_idx (P := Try.prog) IP.und IP.size .i64)
  have l1 := h.row.run_len (P := Try.prog) IEv.und 3
  have l2 := h.prow.run_len (P := Try.prog) IP.und 3
  clear hw0 hg0 x0 b0 h
  go_enter Try.func12, Try.ntmps12
  go_upto_region 1 with fail
  rw [← HW.out.1, ← HW.out.2.1]
  clear s1 s2
  go_wp2_with fail
  refine (first16_any _).mono ?_
  rintro e w1 ⟨rfl, x1⟩
  obtain ⟨c0, c1⟩ := (KE.out _ x1).2.cells
  go_wp2_with fail
  refine (few_any _ _ _ V L (KE.out _ x1).1 40 (by decide)).mono ?_
  rintro r w2 ⟨⟨r, rfl, hf⟩, y2⟩
  have X2 : Ext w0 w2 := x1.trans y2
  clear c0 c1
  obtain ⟨c0, c1⟩ := (KE.out _ X2).2.cells
  cases r with
  | false =>
    clear hf
    go_wp2_with fail
    refine (first16_any _).mono ?_
    rintro e w3 ⟨rfl, x3⟩
    go_wp2_with fail
    go_ret
    exact ⟨rfl, (HW.out.2.2.trans X2).trans x3⟩
  | true =>
    have HS : Hid (L.ev.length ≤ 40 ∧ L.pr.length ≤ 40 ∧ ∀ i, i < L.ev.length → (evn L.ev i).rd.length ≤ 20000 ∧ (evn L.ev i).wr.length ≤ 20000 ∧ (evn L.ev i).fr.length ≤ 20000) := Lib.hid (hf rfl)
    have hle : (L.ev.length : Int) ≤ 40 := by have := HS.out.1; omega
    have hle2 : (L.pr.length : Int) ≤ 40 := by have := HS.out.2.1; omega
    clear hf
    go_wp2_with fail
    refine (may_any _ ve vp V L (KE.out _ X2).1).mono ?_
    rintro e w3 ⟨rfl, y3⟩
    have X3 : Ext w0 w3 := X2.trans y3
    clear c0 c1
    obtain ⟨c0, c1⟩ := (KE.out _ X3).2.cells
    cases hm : mayL L with
    | false =>
      clear hm
      go_wp2_with fail
      refine (first16_any _).mono ?_
      rintro e w4 ⟨rfl, x4⟩
      go_wp2_with fail
      go_ret
      exact ⟨rfl, (HW.out.2.2.trans X3).trans x4⟩
    | true =>
      have HM := Lib.hid hm
      clear hm
      go_wp2_with fail
      refine (head_any _ ve vp V L (KE.out _ X3).1 n HNI.out ⟨by have := HS.out.1; omega, by have := HS.out.2.1; omega, HS.out.2.2⟩).mono ?_
      rintro r wh ⟨hv, pv, V5, rfl, oh, yh, -⟩
      have lh := head_in (KE.out _ X3).1 oh
      have k1 := Sl.cells_eq lh.row
      have k2 := Sl.cells_eq lh.prow
      have t1 := Sl.run_st (P := Try.prog) lh.row
      have t2 := Sl.run_st (P := Try.prog) lh.prow
      have lhl := lh.row.run_len (P := Try.prog) IEv.und 3
      rw [head_evlen] at lhl
      have HLH := Lib.hid lh
      clear oh lh c0 c1
      go_upto_region 6 with fail
      obtain ⟨wm, hwm⟩ : ∃ wm, wm = wh.alloc (.cells #[hv, pv] 25) := ⟨_, rfl⟩
      obtain ⟨gm, hgm⟩ : ∃ g, g = wh.heap.size := ⟨_, rfl⟩
      have xm : Ext wh wm := by rw [hwm]; exact (Mod.refl _ _).alloc _
      have bm : LogBox wm gm hv pv := ⟨by rw [hwm, hgm]; exact heap_alloc_new _ _⟩
      rw [← hwm, ← hgm]
      have HXM : Hid (Ext w0 wm) := Lib.hid (X3.trans (yh.trans xm))
      have KH : Hid (∀ w', Ext wm w' → LogIn w' hv pv V5 (headL L n) ∧ LogBox w' gm hv pv) := Lib.hid fun w' x => ⟨HLH.out.ext (xm.trans x), bm.ext x⟩
      have KF : Hid (∀ w', Ext wm w' → w'.cell? ⟨g0, 0, none⟩ = some ve ∧ w'.cell? ⟨g0, 1, none⟩ = some vp ∧ w'.cell? ⟨gm, 0, none⟩ = some hv ∧ w'.cell? ⟨gm, 1, none⟩ = some pv) := Lib.hid fun w' x => ⟨(KE.out _ (HXM.out.trans x)).2.cells.1, (KE.out _ (HXM.out.trans x)).2.cells.2, (KH.out _ x).2.cells.1, (KH.out _ x).2.cells.2⟩
      obtain ⟨s1, s2, s3, s4⟩ := heads16 (n := n) HM.out
      obtain ⟨b1, b2⟩ := cohI_range L
      obtain ⟨b3, b4⟩ := tearI_range L
      obtain ⟨b5, b6⟩ := cohI_range (headL L n)
      obtain ⟨b7, b8⟩ := tearI_range (headL L n)
      obtain ⟨c, hc⟩ : ∃ x, x = cohI L := ⟨_, rfl⟩
      obtain ⟨d, hd⟩ : ∃ x, x = cohI (headL L n) := ⟨_, rfl⟩
      obtain ⟨t, ht⟩ : ∃ x, x = tearI L := ⟨_, rfl⟩
      obtain ⟨u, hu⟩ : ∃ x, x = tearI (headL L n) := ⟨_, rfl⟩
      obtain ⟨VL, hvl⟩ : ∃ x, x = valB L (natL L) := ⟨_, rfl⟩
      obtain ⟨N, hN⟩ : ∃ x, x = headN L n := ⟨_, rfl⟩
      rw [← hc, ← hd] at s1
      rw [← ht, ← hu] at s2
      rw [← hc, ← hd, ← hN] at s3
      rw [← ht, ← hu, ← hN] at s4
      rw [← hN] at lhl
      rw [← hc] at b1 b2
      rw [← ht] at b3 b4
      rw [← hd] at b5
      rw [← hu] at b7
      have HC := Lib.hid hc.symm
      have HD := Lib.hid hd.symm
      have HT := Lib.hid ht.symm
      have HU := Lib.hid hu.symm
      have HV := Lib.hid hvl.symm
      have HSS := Lib.hid (And.intro s1 (And.intro s2 (And.intro s3 (And.intro s4 (And.intro b1 (And.intro b3 (And.intro b5 b7)))))))
      clear hwm hgm xm bm t1 t2 hc hd ht hu hvl hN s1 s2 s3 s4 b1 b2 b3 b4 b5 b6 b7 b8
      refine wp_region_plan [(0, true), (2, true), (1, false), (3, false), (4, true), (5, true)] (fun w' => w'.cell? ⟨g0, 0, none⟩ = some ve ∧ w'.cell? ⟨g0, 1, none⟩ = some vp ∧ w'.cell? ⟨gm, 0, none⟩ = some hv ∧ w'.cell? ⟨gm, 1, none⟩ = some pv) (by kernel_rfl) (by kernel_rfl) (by kernel_rfl) (fun _ d _ _ _ h => by cases d <;> exact h) (KF.out _ (Mod.drew (Mod.refl _ _))) ?_
      simp only [planL, getO]
      iterate 2 (refine plan_take (v := ?_) (by rfl) (fun wS hS => ?_) ?_; rotate_left; (focus ((try dsimp only at hS); go_simp; (try with_reducible rfl); done)); (try simp only [Act.put, List.setIfInBounds_toArray, List.set_cons_zero, List.set_cons_succ]))
      refine plan_call (fun K hK => ?_)
      go_simp
      go_at_call 39; refine (coherent_any _ ve vp V L (KE.out _ (HXM.out.trans (Mod.drew (Mod.refl _ _)))).1 (by have := HS.out.1; omega)).mono ?_; rintro e v10 ⟨rfl, y10⟩; have x10 : Ext wm v10 := Mod.trans (Mod.drew (Mod.refl _ _)) y10; rw [HC.out]
      refine hK.out _ _ (KF.out _ x10) ?_
      clear hK K
      (try simp only [Act.put, List.setIfInBounds_toArray, List.set_cons_zero, List.set_cons_succ])
      refine plan_call (fun K hK => ?_)
      go_simp
      go_at_call 39; refine (coherent_any _ hv pv V5 (headL L n) (KH.out _ x10).1 (by have := HS.out.1; have := headN_le L n; rw [head_evlen]; omega)).mono ?_; rintro e v11 ⟨rfl, y11⟩; have x11 : Ext wm v11 := Mod.trans x10 y11; rw [HD.out]
      refine hK.out _ _ (KF.out _ x11) ?_
      clear hK K
      (try simp only [Act.put, List.setIfInBounds_toArray, List.set_cons_zero, List.set_cons_succ])
      iterate 2 (refine plan_take (v := ?_) (by rfl) (fun wS hS => ?_) ?_; rotate_left; (focus ((try dsimp only at hS); go_simp; (try with_reducible rfl); done)); (try simp only [Act.put, List.setIfInBounds_toArray, List.set_cons_zero, List.set_cons_succ]))
      refine plan_nil ?_
      go_upto_region 7 with fail
      refine wp_region_plan [(0, true), (2, true), (1, false), (3, false), (4, true), (5, true)] (fun w' => w'.cell? ⟨g0, 0, none⟩ = some ve ∧ w'.cell? ⟨g0, 1, none⟩ = some vp ∧ w'.cell? ⟨gm, 0, none⟩ = some hv ∧ w'.cell? ⟨gm, 1, none⟩ = some pv) (by kernel_rfl) (by kernel_rfl) (by kernel_rfl) (fun _ d _ _ _ h => by cases d <;> exact h) (KF.out _ (x11.trans (Mod.drew (Mod.refl _ _)))) ?_
      simp only [planL, getO]
      iterate 2 (refine plan_take (v := ?_) (by rfl) (fun wS hS => ?_) ?_; rotate_left; (focus ((try dsimp only at hS); go_simp; (try with_reducible rfl); done)); (try simp only [Act.put, List.setIfInBounds_toArray, List.set_cons_zero, List.set_cons_succ]))
      refine plan_call (fun K hK => ?_)
      go_simp
      go_at_call 41; refine (tearfree_any _ ve vp V L (KE.out _ (HXM.out.trans (x11.trans (Mod.drew (Mod.refl _ _))))).1 (by have := HS.out.1; omega)).mono ?_; rintro e v20 ⟨rfl, y20⟩; have x20 : Ext wm v20 := Mod.trans (x11.trans (Mod.drew (Mod.refl _ _))) y20; rw [HT.out]
      refine hK.out _ _ (KF.out _ x20) ?_
      clear hK K
      (try simp only [Act.put, List.setIfInBounds_toArray, List.set_cons_zero, List.set_cons_succ])
      refine plan_call (fun K hK => ?_)
      go_simp
      go_at_call 41; refine (tearfree_any _ hv pv V5 (headL L n) (KH.out _ x20).1 (by have := HS.out.1; have := headN_le L n; rw [head_evlen]; omega)).mono ?_; rintro e v21 ⟨rfl, y21⟩; have x21 : Ext wm v21 := Mod.trans x20 y21; rw [HU.out]
      refine hK.out _ _ (KF.out _ x21) ?_
      clear hK K
      (try simp only [Act.put, List.setIfInBounds_toArray, List.set_cons_zero, List.set_cons_succ])
      iterate 2 (refine plan_take (v := ?_) (by rfl) (fun wS hS => ?_) ?_; rotate_left; (focus ((try dsimp only at hS); go_simp; (try with_reducible rfl); done)); (try simp only [Act.put, List.setIfInBounds_toArray, List.set_cons_zero, List.set_cons_succ]))
      refine plan_nil ?_
      go_upto_region 8 with fail
      obtain ⟨c0, c1, c2, c3⟩ := KF.out _ x21
      go_cut [79] (fun s79 wq => s79 = .bool false ∧ wq = v21)
      case first =>
        obtain ⟨s1, s2, s3, s4, b1, b3, b5, b7⟩ := HSS.out
        have hcd : 0 ≤ d → (c != d) = false := fun h => by rw [s1 h]; simp
        have htu : 0 ≤ u → (t != u) = false := fun h => by rw [s2 h]; simp
        have hdc : 0 ≤ c → c < (N : Int) → (d != c) = false := fun h h' => by rw [s3 h h']; simp
        have hut : 0 ≤ t → t < (N : Int) → (u != t) = false := fun h h' => by rw [s4 h h']; simp
        clear s1 s2 s3 s4 b1 b3 b5 b7
        have cd : ¬ (0 ≤ d) ∨ (0 ≤ d ∧ (c != d) = false) := by by_cases h : 0 ≤ d; exact .inr ⟨h, hcd h⟩; exact .inl h
        have ct : ¬ (0 ≤ u) ∨ (0 ≤ u ∧ (t != u) = false) := by by_cases h : 0 ≤ u; exact .inr ⟨h, htu h⟩; exact .inl h
        have cc : ¬ (0 ≤ c) ∨ (0 ≤ c ∧ ¬ c < (N : Int)) ∨ (0 ≤ c ∧ c < (N : Int) ∧ (d != c) = false) := by
          by_cases h : 0 ≤ c
          · by_cases h' : c < (N : Int)
            · exact .inr (.inr ⟨h, h', hdc h h'⟩)
            · exact .inr (.inl ⟨h, h'⟩)
          · exact .inl h
        have cu : ¬ (0 ≤ t) ∨ (0 ≤ t ∧ ¬ t < (N : Int)) ∨ (0 ≤ t ∧ t < (N : Int) ∧ (u != t) = false) := by
          by_cases h : 0 ≤ t
          · by_cases h' : t < (N : Int)
            · exact .inr (.inr ⟨h, h', hut h h'⟩)
            · exact .inr (.inl ⟨h, h'⟩)
          · exact .inl h
        clear hcd htu hdc hut
        rcases cd with d1 | ⟨d1, d2⟩ <;> rcases ct with e1 | ⟨e1, e2⟩ <;> rcases cc with f1 | ⟨f1, f2⟩ | ⟨f1, f2, f3⟩ <;> rcases cu with j1 | ⟨j1, j2⟩ | ⟨j1, j2, j3⟩ <;> (go_wp2_with fail; go_meet; exact ⟨rfl, rfl⟩)
      case rest =>
        obtain ⟨rfl, rfl⟩ := hcut
        clear c0 c1 c2 c3
        go_upto_region 10 with fail
        cases VL with
        | false =>
          refine wp_region_plan [(0, false), (1, true), (2, true), (3, true), (4, false), (5, false), (6, true), (7, true), (8, true), (9, true), (10, false), (11, false), (12, true), (13, true), (14, true)] (fun w' => w'.cell? ⟨g0, 0, none⟩ = some ve ∧ w'.cell? ⟨g0, 1, none⟩ = some vp ∧ w'.cell? ⟨gm, 0, none⟩ = some hv ∧ w'.cell? ⟨gm, 1, none⟩ = some pv) (by kernel_rfl) (by kernel_rfl) (by kernel_rfl) (fun _ d _ _ _ h => by cases d <;> exact h) (KF.out _ (x21.trans (Mod.drew (Mod.refl _ _)))) ?_
          simp only [planL, getO]
          refine plan_call (fun K hK => ?_)
          go_simp
          go_at_call 37; refine (first16_any _).mono ?_; rintro e v30 ⟨rfl, y30⟩; have x30 : Ext wm v30 := Mod.trans (x21.trans (Mod.drew (Mod.refl _ _))) y30
          refine hK.out _ _ (KF.out _ x30) ?_
          clear hK K
          (try simp only [Act.put, List.setIfInBounds_toArray, List.set_cons_zero, List.set_cons_succ])
          iterate 3 (refine plan_take (v := ?_) (by rfl) (fun wS hS => ?_) ?_; rotate_left; (focus ((try dsimp only at hS); go_simp; (try with_reducible rfl); done)); (try simp only [Act.put, List.setIfInBounds_toArray, List.set_cons_zero, List.set_cons_succ]))
          refine plan_call (fun K hK => ?_)
          go_simp
          go_at_call 50; refine (natural_any _ ve vp V L (KE.out _ (HXM.out.trans x30)).1 (by have := HS.out.1; omega)).mono ?_; rintro e v31 ⟨nv31, rfl, n31, y31⟩; have x31 : Ext wm v31 := Mod.trans x30 y31; have HN31 := Lib.hid n31; clear n31
          refine hK.out _ _ (KF.out _ x31) ?_
          clear hK K
          (try simp only [Act.put, List.setIfInBounds_toArray, List.set_cons_zero, List.set_cons_succ])
          refine plan_call (fun K hK => ?_)
          go_simp
          go_at_call 47; refine (valid_any _ ve vp V L (KE.out _ (HXM.out.trans x31)).1 (by have := HS.out.1; omega) nv31 _ HN31.out).mono ?_; rintro e v32 ⟨rfl, y32⟩; have x32 : Ext wm v32 := Mod.trans x31 y32; rw [HV.out]
          refine hK.out _ _ (KF.out _ x32) ?_
          clear hK K
          (try simp only [Act.put, List.setIfInBounds_toArray, List.set_cons_zero, List.set_cons_succ])
          iterate 2 (refine plan_take (v := ?_) (by rfl) (fun wS hS => ?_) ?_; rotate_left; (focus ((try dsimp only at hS); go_simp; (try with_reducible rfl); done)); (try simp only [Act.put, List.setIfInBounds_toArray, List.set_cons_zero, List.set_cons_succ]))
          iterate 2 (refine plan_skip (by rfl) ?_; (try simp only [Act.put, List.setIfInBounds_toArray, List.set_cons_zero, List.set_cons_succ]))
          (refine plan_skip (by rfl) ?_; (try simp only [Act.put, List.setIfInBounds_toArray, List.set_cons_zero, List.set_cons_succ]))
          (refine plan_skip (by rfl) ?_; (try simp only [Act.put, List.setIfInBounds_toArray, List.set_cons_zero, List.set_cons_succ]))
          iterate 3 (refine plan_take (v := ?_) (by rfl) (fun wS hS => ?_) ?_; rotate_left; (focus ((try dsimp only at hS); go_simp; (try with_reducible rfl); done)); (try simp only [Act.put, List.setIfInBounds_toArray, List.set_cons_zero, List.set_cons_succ]))
          refine plan_nil ?_
          go_wp2_with fail
          go_ret
          exact ⟨rfl, HW.out.2.2.trans (HXM.out.trans x32)⟩
        | true =>
          have HVH : Hid (valB (headL L n) (natL (headL L n)) = true) := Lib.hid (head_valB HM.out HV.out)
          refine wp_region_plan [(0, false), (1, true), (2, true), (3, true), (4, false), (5, false), (6, true), (7, true), (8, true), (9, true), (10, false), (11, false), (12, true), (13, true), (14, true)] (fun w' => w'.cell? ⟨g0, 0, none⟩ = some ve ∧ w'.cell? ⟨g0, 1, none⟩ = some vp ∧ w'.cell? ⟨gm, 0, none⟩ = some hv ∧ w'.cell? ⟨gm, 1, none⟩ = some pv) (by kernel_rfl) (by kernel_rfl) (by kernel_rfl) (fun _ d _ _ _ h => by cases d <;> exact h) (KF.out _ (x21.trans (Mod.drew (Mod.refl _ _)))) ?_
          simp only [planL, getO]
          refine plan_call (fun K hK => ?_)
          go_simp
          go_at_call 37; refine (first16_any _).mono ?_; rintro e v30 ⟨rfl, y30⟩; have x30 : Ext wm v30 := Mod.trans (x21.trans (Mod.drew (Mod.refl _ _))) y30
          refine hK.out _ _ (KF.out _ x30) ?_
          clear hK K
          (try simp only [Act.put, List.setIfInBounds_toArray, List.set_cons_zero, List.set_cons_succ])
          iterate 3 (refine plan_take (v := ?_) (by rfl) (fun wS hS => ?_) ?_; rotate_left; (focus ((try dsimp only at hS); go_simp; (try with_reducible rfl); done)); (try simp only [Act.put, List.setIfInBounds_toArray, List.set_cons_zero, List.set_cons_succ]))
          refine plan_call (fun K hK => ?_)
          go_simp
          go_at_call 50; refine (natural_any _ ve vp V L (KE.out _ (HXM.out.trans x30)).1 (by have := HS.out.1; omega)).mono ?_; rintro e v31 ⟨nv31, rfl, n31, y31⟩; have x31 : Ext wm v31 := Mod.trans x30 y31; have HN31 := Lib.hid n31; clear n31
          refine hK.out _ _ (KF.out _ x31) ?_
          clear hK K
          (try simp only [Act.put, List.setIfInBounds_toArray, List.set_cons_zero, List.set_cons_succ])
          refine plan_call (fun K hK => ?_)
          go_simp
          go_at_call 47; refine (valid_any _ ve vp V L (KE.out _ (HXM.out.trans x31)).1 (by have := HS.out.1; omega) nv31 _ HN31.out).mono ?_; rintro e v32 ⟨rfl, y32⟩; have x32 : Ext wm v32 := Mod.trans x31 y32; rw [HV.out]
          refine hK.out _ _ (KF.out _ x32) ?_
          clear hK K
          (try simp only [Act.put, List.setIfInBounds_toArray, List.set_cons_zero, List.set_cons_succ])
          iterate 4 (refine plan_take (v := ?_) (by rfl) (fun wS hS => ?_) ?_; rotate_left; (focus ((try dsimp only at hS); go_simp; (try with_reducible rfl); done)); (try simp only [Act.put, List.setIfInBounds_toArray, List.set_cons_zero, List.set_cons_succ]))
          refine plan_call (fun K hK => ?_)
          go_simp
          go_at_call 50; refine (natural_any _ hv pv V5 (headL L n) (KH.out _ x32).1 (by have := HS.out.1; have := headN_le L n; rw [head_evlen]; omega)).mono ?_; rintro e v33 ⟨nv33, rfl, n33, y33⟩; have x33 : Ext wm v33 := Mod.trans x32 y33; have HN33 := Lib.hid n33; clear n33
          refine hK.out _ _ (KF.out _ x33) ?_
          clear hK K
          (try simp only [Act.put, List.setIfInBounds_toArray, List.set_cons_zero, List.set_cons_succ])
          refine plan_call (fun K hK => ?_)
          go_simp
          go_at_call 47; refine (valid_any _ hv pv V5 (headL L n) (KH.out _ x33).1 (by have := HS.out.1; have := headN_le L n; rw [head_evlen]; omega) nv33 _ HN33.out).mono ?_; rintro e v34 ⟨rfl, y34⟩; have x34 : Ext wm v34 := Mod.trans x33 y34; rw [HVH.out]
          refine hK.out _ _ (KF.out _ x34) ?_
          clear hK K
          (try simp only [Act.put, List.setIfInBounds_toArray, List.set_cons_zero, List.set_cons_succ])
          iterate 3 (refine plan_take (v := ?_) (by rfl) (fun wS hS => ?_) ?_; rotate_left; (focus ((try dsimp only at hS); go_simp; (try with_reducible rfl); done)); (try simp only [Act.put, List.setIfInBounds_toArray, List.set_cons_zero, List.set_cons_succ]))
          refine plan_nil ?_
          go_wp2_with fail
          go_ret
          exact ⟨rfl, HW.out.2.2.trans (HXM.out.trans x34)⟩
end Go.Proofs.Ythmkcgiiakinmaa
