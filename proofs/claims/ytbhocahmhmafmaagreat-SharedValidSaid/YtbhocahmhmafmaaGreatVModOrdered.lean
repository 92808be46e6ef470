/-
  The contract of model.Ordered. No condition.
-/
import Derived.Test.YtbhocahmhmafmaaGreatVModOrd
namespace Go.Proofs.YtbhocahmhmafmaaGreat
open Go.Ren Go.RowKit
set_option linter.unusedVariables false
theorem int_cell {w : World} {v : Value} {n : Nat} {f : Nat → Int} (h : Own w 3 1 v n ((List.range n).map fun k => iv (f k))) {k : Nat} (hk : k < n) : w.cell? (at_ v k) = some (.int .i64 (f k)) := h.sl.cell k (iv (f k)) (by simp [hk])
set_option maxRecDepth 100000 in
set_option maxHeartbeats 1600000 in
theorem ordered_any (w : World) (ve vp : Value) (V : Nat → Vs) (L : Lg) (h : LogIn w ve vp V L) (hl : L.ev.length ≤ 64) (ov : Value) (l : List Int) (hov : IntsAt w ov l) :
 Calls Tryz.prog 78 #[.agg #[ve, vp], ov] w (NumPost (ordI L l) w) := by
 have HLE := Lib.hid hl
 have hle : (L.ev.length : Int) ≤ 64 := by omega
 have HOV := Lib.hid hov
 clear hl hov
 have q1 := Sl.cells_eq h.row
 have q2 := Sl.cells_eq h.prow
 have s1 := Sl.run_st (P := Tryz.prog) h.row
 have s2 := Sl.run_st (P := Tryz.prog) h.prow
 obtain ⟨w0, hw0⟩ : ∃ w0, w0 = w.alloc (.cells #[ve, vp] 48) := ⟨_, rfl⟩
 obtain ⟨g0, hg0⟩ : ∃ g, g = w.heap.size := ⟨_, rfl⟩
 have x0 : Ext w w0 := by rw [hw0]; exact (Mod.refl _ _).alloc _
 have b0 : LogBox w0 g0 ve vp := ⟨by rw [hw0, hg0]; exact heap_alloc_new _ _⟩
 have HW := Lib.hid (And.intro hw0 (And.intro hg0 x0))
 have KE : Hid (∀ w', Ext w0 w' → LogIn w' ve vp V L ∧ LogBox w' g0 ve vp) := Lib.hid fun w' x => ⟨h.ext (x0.trans x), b0.ext x⟩
 have HI := Lib.hid (h.row.run_idx (P := Tryz.prog) IEv.und IEv.size .i64)
 have HJ := Lib.hid (h.prow.run_idx (P := Tryz.prog) IP.und IP.size .i64)
 have l1 := h.row.run_len (P := Tryz.prog) IEv.und 3
 have l2 := h.prow.run_len (P := Tryz.prog) IP.und 3
 obtain ⟨c0, c1⟩ := b0.cells
 clear hw0 hg0 x0 b0 h
 go_enter Tryz.func78, Tryz.ntmps78
 go_upto_region 1 with fail
 rw [← HW.out.1, ← HW.out.2.1]
 clear s1 s2
 go_wp2_with fail
 refine (may_any _ ve vp V L (KE.out _ (Mod.refl _ _)).1).mono ?_
 rintro e w1 ⟨rfl, y1⟩
 clear c0 c1
 cases hm : mayL L with
 | false =>
  have HC : Hid (ordI L l = 0) := Lib.hid (by unfold ordI ordB; rw [hm]; rfl)
  clear hm
  go_wp2_with fail
  go_ret
  exact ⟨by rw [HC.out]; rfl, HW.out.2.2.trans y1⟩
 | true =>
  have HM := Lib.hid hm
  clear hm
  obtain ⟨c0, c1⟩ := (KE.out _ y1).2.cells
  go_wp2_with fail
  refine (places_any _ L.ev.length HLE.out ov l (HOV.out.ext (HW.out.2.2.trans y1))).mono ?_
  rintro e w2 ⟨av, rfl, ho, y2⟩
  have HX2 := Lib.hid (y1.trans y2)
  cases hp : plOk L.ev.length l with
  | false =>
   have HC : Hid (ordI L l = 0) := Lib.hid (by unfold ordI ordB; rw [hp, Bool.and_false]; rfl)
   clear hp ho c0 c1
   go_wp2_with fail
   go_ret
   exact ⟨by rw [HC.out]; rfl, HW.out.2.2.trans HX2.out⟩
  | true =>
   have hoo := ho hp
   have HO := Lib.hid hoo
   have HOB : Hid (ordB L l = (listR L.ev.length (hbB L)).all (ordP l)) := Lib.hid (by unfold ordB; rw [HM.out, hp]; rfl)
   have IA := Lib.hid (hoo.sl.run_idx (P := Tryz.prog) II.und II.size .i64)
   clear hp ho hoo c0 c1
   obtain ⟨c0, c1⟩ := (KE.out _ HX2.out).2.cells
   go_wp2_with fail
   refine (rbefore_any _ ve vp V L (KE.out _ HX2.out).1 HLE.out).mono ?_
   rintro e w3 h3
   obtain ⟨pr, rfl, r3, y3⟩ := rpost_is h3
   rw [relN_may HM.out] at r3
   have HR3 := Lib.hid r3
   clear h3 r3 c0 c1
   go_wp2_with fail
   refine (rlist_any _ _ _ _ HR3.out).mono ?_
   rintro e w4 ⟨cv, rfl, ho1, y4, -⟩
   have HX4 := Lib.hid (y3.trans y4)
   obtain ⟨C, hC⟩ : ∃ C, C = listR L.ev.length (hbB L) := ⟨_, rfl⟩
   rw [← hC] at ho1 HOB
   have hCl : (C.length : Int) ≤ 4096 := by have := listP_len (hbB L) HLE.out L.ev.length; rw [hC]; have := HLE.out; unfold listR; omega
   have HAT : Hid (∀ i, i < C.length → ∃ a b : Nat, prn C i = ((a : Int), (b : Int)) ∧ a < L.ev.length ∧ b < L.ev.length) := Lib.hid (fun i hi => by
    obtain ⟨a, b, e, h1, h2, _⟩ := mem_listR.1 (by rw [← hC]; exact List.getElem_mem hi)
    exact ⟨a, b, by rw [prn_eq hi, e], h1, h2⟩)
   have lc := ho1.sl.run_len (P := Tryz.prog) IP.und 3
   have HIC := Lib.hid (ho1.sl.run_idx (P := Tryz.prog) IP.und IP.size .i64)
   have HOC := Lib.hid ho1
   clear hC ho1 y3 y4
   go_wp2_with fail
   go_loopw [26] (fun s wr => ∃ i : Nat, i ≤ C.length ∧ s = .int .i64 (i : Int) ∧ (∀ j, j < i → ordP l (prn C j) = true) ∧ Ext w4 wr) (fun s _ => C.length - (intOf s).toNat)
   case atStart => exact ⟨0, Nat.zero_le _, rfl, fun j hj => absurd hj (Nat.not_lt_zero _), Mod.refl _ _⟩
   case round =>
    obtain ⟨i, hi, rfl, hn, x⟩ := hrel
    have HN := Lib.hid hn
    have HX := Lib.hid x
    by_cases hlt : i < C.length
    · have hlt' : (i : Int) < (C.length : Int) := by omega
      have j0 := HIC.out i hlt
      obtain ⟨e0, e1⟩ := pair_cells (HOC.out.ext x) hlt
      obtain ⟨pa, pb, hp, h1, h2⟩ := HAT.out i hlt
      rw [hp] at e0 e1
      obtain ⟨A, hA⟩ : ∃ A, A = at_ cv (i * 2) := ⟨_, rfl⟩
      rw [← hA] at j0 e0 e1
      have i0 := IA.out pa h1
      have i1 := IA.out pb h2
      simp only [Nat.mul_one] at i0 i1
      obtain ⟨w5, hw5⟩ : ∃ w5, w5 = wr.alloc (.cells #[.int .i64 (pa : Int), .int .i64 (pb : Int)] 112) := ⟨_, rfl⟩
      obtain ⟨g5, hg5⟩ : ∃ g, g = wr.heap.size := ⟨_, rfl⟩
      have x5 : Ext wr w5 := by rw [hw5]; exact (Mod.refl _ _).alloc _
      have b5 : w5.heap[g5]? = some (.cells #[.int .i64 (pa : Int), .int .i64 (pb : Int)] 112 (0, 0)) := by rw [hw5, hg5]; exact heap_alloc_new _ _
      obtain ⟨za, hza⟩ : ∃ z, z = posI l pa := ⟨_, rfl⟩
      obtain ⟨zb, hzb⟩ : ∃ z, z = posI l pb := ⟨_, rfl⟩
      have HP : Hid (ordP l (prn C i) = decide (za < zb)) := Lib.hid (by rw [hp, hza, hzb]; rfl)
      have ho5 := HO.out.ext (HX4.out.trans (x.trans x5))
      have KF : Hid (∀ w', Ext w5 w' → w'.cell? ⟨g5, 0, none⟩ = some (.int .i64 (pa : Int)) ∧ w'.cell? ⟨g5, 1, none⟩ = some (.int .i64 (pb : Int)) ∧ w'.cell? (at_ av pa) = some (.int .i64 za) ∧ w'.cell? (at_ av pb) = some (.int .i64 zb)) := Lib.hid fun w' k => ⟨by simp [World.cell?, Ext.blk k b5], by simp [World.cell?, Ext.blk k b5], by rw [hza]; exact int_cell (ho5.ext k) h1, by rw [hzb]; exact int_cell (ho5.ext k) h2⟩
      have HW5 := Lib.hid (And.intro hw5 (And.intro hg5 x5))
      clear hn x hp hA hw5 hg5 x5 b5 hza hzb ho5 h1 h2
      go_upto_region 9 with fail
      rw [← HW5.out.1, ← HW5.out.2.1]
      clear e0 e1 j0
      by_cases hz : za < zb
      · have hz' : ¬ zb ≤ za := by omega
        have HNN := Lib.hid (lt_step HN.out (by rw [HP.out]; simpa using hz))
        clear hz
        refine wp_region_plan [(0, true), (1, true), (2, true), (3, true), (4, true), (5, true), (6, true), (7, true), (8, true), (9, true), (10, true)] (fun w' => w'.cell? ⟨g5, 0, none⟩ = some (.int .i64 (pa : Int)) ∧ w'.cell? ⟨g5, 1, none⟩ = some (.int .i64 (pb : Int)) ∧ w'.cell? (at_ av pa) = some (.int .i64 za) ∧ w'.cell? (at_ av pb) = some (.int .i64 zb)) (by kernel_rfl) (by kernel_rfl) (by kernel_rfl) (fun _ d _ _ _ h => by cases d <;> exact h) (KF.out _ (Mod.drew (Mod.refl _ _))) ?_
        simp only [planL, getO]
        iterate 11 (refine plan_take (v := ?_) (by rfl) (fun wS hS => ?_) ?_; rotate_left; (focus ((try dsimp only at hS); go_simp; (try with_reducible rfl); done)); (try simp only [Act.put, List.setIfInBounds_toArray, List.set_cons_zero, List.set_cons_succ]))
        refine plan_nil ?_
        go_wp2_with fail
        go_roundw
        case rel => exact ⟨i + 1, by omega, by go_num, HNN.out, HX.out.trans (HW5.out.2.2.drew)⟩
        case measure => simp [intOf]; omega
      · have hz' : zb ≤ za := by omega
        have HC : Hid (ordI L l = 0) := Lib.hid (by
         have hf : ordB L l = false := by
          rw [HOB.out, List.all_eq_false]
          exact ⟨prn C i, by rw [prn_eq hlt]; exact List.getElem_mem hlt, by rw [HP.out]; simpa using hz'⟩
         unfold ordI; rw [hf]; rfl)
        clear hz
        refine wp_region_plan [(0, true), (1, true), (2, true), (3, true), (4, true), (5, true), (6, true), (7, true), (8, true), (9, true), (10, true)] (fun w' => w'.cell? ⟨g5, 0, none⟩ = some (.int .i64 (pa : Int)) ∧ w'.cell? ⟨g5, 1, none⟩ = some (.int .i64 (pb : Int)) ∧ w'.cell? (at_ av pa) = some (.int .i64 za) ∧ w'.cell? (at_ av pb) = some (.int .i64 zb)) (by kernel_rfl) (by kernel_rfl) (by kernel_rfl) (fun _ d _ _ _ h => by cases d <;> exact h) (KF.out _ (Mod.drew (Mod.refl _ _))) ?_
        simp only [planL, getO]
        iterate 11 (refine plan_take (v := ?_) (by rfl) (fun wS hS => ?_) ?_; rotate_left; (focus ((try dsimp only at hS); go_simp; (try with_reducible rfl); done)); (try simp only [Act.put, List.setIfInBounds_toArray, List.set_cons_zero, List.set_cons_succ]))
        refine plan_nil ?_
        go_wp2_with fail
        go_ret
        exact ⟨by rw [HC.out]; rfl, HW.out.2.2.trans (HX2.out.trans (HX4.out.trans (HX.out.trans (HW5.out.2.2.drew))))⟩
    · have hlt' : ¬ (i : Int) < (C.length : Int) := by omega
      have HC : Hid (ordI L l = -1) := Lib.hid (by
       have hf : ordB L l = true := by
        rw [HOB.out, List.all_eq_true]
        intro p hp
        obtain ⟨j, hj, rfl⟩ := List.getElem_of_mem hp
        have := hn j (by omega)
        rwa [prn_eq hj] at this
       unfold ordI; rw [hf]; rfl)
      clear hn x
      go_wp2_with fail
      go_ret
      exact ⟨by rw [HC.out]; rfl, HW.out.2.2.trans (HX2.out.trans (HX4.out.trans HX.out))⟩
end Go.Proofs.YtbhocahmhmafmaaGreat
