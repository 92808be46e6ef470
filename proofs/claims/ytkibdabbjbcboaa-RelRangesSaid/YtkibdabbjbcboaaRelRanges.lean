/-
  RelRanges: the walk of renlaw15.RelRanges. No condition.
-/
import Derived.Test.YtkibdabbjbcboaaRelIter
import Derived.Test.YtkibdabbjbcboaaRelBefore
import Derived.Test.YtkibdabbjbcboaaRelFirst
import Derived.Test.YtkibdabbjbcboaaEvFew
import Derived.Test.YtkibdabbjbcboaaEvTool
import Derived.Test.YtkibdabbjbcboaaPairEq
namespace Go.Proofs.Ytkibdabbjbcboaa
open Go.Ren Go.RowKit
set_option linter.unusedVariables false
set_option maxRecDepth 100000 in
set_option maxHeartbeats 1600000 in
theorem relRanges_all (w : World) (ve vp : Value) (V : Nat → Vs) (L : Lg) (h : LogIn w ve vp V L) (m : Int) (hm : I64 m) :
    Calls Try.prog 3 #[.agg #[ve, vp], .int .i64 m] w (FPost true w) := by
  have HM64 := Lib.hid hm
  clear hm
  have q1 := Sl.cells_eq h.row
  have q2 := Sl.cells_eq h.prow
  have s1 := Sl.run_st (P := Try.prog) h.row
  have s2 := Sl.run_st (P := Try.prog) h.prow
  obtain ⟨w0, hw0⟩ : ∃ w0, w0 = w.alloc (.cells #[ve, vp] 25) := ⟨_, rfl⟩
  obtain ⟨g0, hg0⟩ : ∃ g, g = w.heap.size := ⟨_, rfl⟩
  have x0 : Ext w w0 := by rw [hw0]; exact (Mod.refl _ _).alloc _
  have b0 : LogBox w0 g0 ve vp := ⟨by rw [hw0, hg0]; exact heap_alloc_new _ _⟩
  have HW := Lib.hid (And.intro hw0 (And.intro hg0 x0))
  have KE : Hid (∀ w', Ext w0 w' → LogIn w' ve vp V L ∧ LogBox w' g0 ve vp) := Lib.hid fun w' x => ⟨h.ext (x0.trans x), b0.ext x⟩
  have HI := Lib.hid (h.row.run_idx (P := Try.prog) IEv.und IEv.size .i64)
  have HJ := Lib.hid (h.prow.run_idx (P := Try.prog) IP.und IP.size .i64)
  have l1 := h.row.run_len (P := Try.prog) IEv.und 3
  have l2 := h.prow.run_len (P := Try.prog) IP.und 3
  clear hw0 hg0 x0 b0 h
  go_enter Try.func3, Try.ntmps3
  go_upto_region 1 with fail
  rw [← HW.out.1, ← HW.out.2.1]
  clear s1 s2
  go_wp2_with fail
  refine (first15_any _).mono ?_
  rintro e w1 ⟨rfl, x1⟩
  obtain ⟨c0, c1⟩ := (KE.out _ x1).2.cells
  go_wp2_with fail
  refine (few_any _ _ _ V L (KE.out _ x1).1 60 (by decide)).mono ?_
  rintro r w2 ⟨⟨r, rfl, hf⟩, y2⟩
  have X2 : Ext w0 w2 := x1.trans y2
  clear c0 c1
  obtain ⟨c0, c1⟩ := (KE.out _ X2).2.cells
  cases r with
  | false =>
    clear hf
    go_wp2_with fail
    refine (first15_any _).mono ?_
    rintro e w3 ⟨rfl, x3⟩
    go_wp2_with fail
    go_ret
    exact ⟨rfl, (HW.out.2.2.trans X2).trans x3⟩
  | true =>
    have HS : Hid (L.ev.length ≤ 60 ∧ L.pr.length ≤ 60 ∧ ∀ i, i < L.ev.length → (evn L.ev i).rd.length ≤ 20000 ∧ (evn L.ev i).wr.length ≤ 20000 ∧ (evn L.ev i).fr.length ≤ 20000) := Lib.hid (hf rfl)
    have hle : (L.ev.length : Int) ≤ 60 := by have := HS.out.1; omega
    have hle2 : (L.pr.length : Int) ≤ 60 := by have := HS.out.2.1; omega
    clear hf
    have HL : Hid (L.ev.length ≤ 64) := Lib.hid (by have := HS.out.1; omega)
    go_wp2_with fail
    refine (rbefore_any _ ve vp V L (KE.out _ X2).1 HL.out).mono ?_
    rintro e w3 h3
    obtain ⟨g, rfl, r3, y3⟩ := rpost_is h3
    have HR := Lib.hid r3
    have HX3 := Lib.hid (X2.trans y3)
    clear h3 r3 y3 c0 c1
    go_wp2_with fail
    refine (rlist_any _ _ _ _ HR.out).mono ?_
    rintro e w4 ⟨v, rfl, o4, y4, -⟩
    have H4 := Lib.hid o4
    have HX4 := Lib.hid (HX3.out.trans y4)
    have HR4 := Lib.hid (HR.out.ext y4)
    clear o4 y4
    go_wp2_with fail
    refine (ranged_any _ _ _ _ HR4.out m HM64.out).mono ?_
    rintro e w5 ⟨u, rfl, o5, y5⟩
    obtain ⟨l, hl⟩ : ∃ l, l = listR (relN L) (hbB L) := ⟨_, rfl⟩
    have HLL : Hid (l.length ≤ 5000) := Lib.hid (by rw [hl]; have h1 := listP_len (hbB L) HR.out.len.2 (relN L); have := HR.out.len.2; unfold listR; omega)
    rw [← hl] at o5
    have o4 := H4.out
    rw [← hl] at o4
    obtain ⟨k, hk⟩ : ∃ k, k = (l.take m.toNat).length := ⟨_, rfl⟩
    have hkm : k = min m.toNat l.length := by rw [hk, List.length_take]
    have HK := Lib.hid (And.intro hk hkm)
    have l3 := (o4.ext y5).sl.run_len (P := Try.prog) IP.und 3
    have l4 := o5.sl.run_len (P := Try.prog) IP.und 3
    have HI4 := Lib.hid ((o4.ext y5).sl.run_idx (P := Try.prog) IP.und IP.size .i64)
    have HI5 := Lib.hid (o5.sl.run_idx (P := Try.prog) IP.und IP.size .i64)
    rw [← hk] at l4 HI5
    have HV : Hid (PairsOwn w5 v l ∧ PairsOwn w5 u (l.take m.toNat)) := Lib.hid ⟨o4.ext y5, o5⟩
    have HX5 := Lib.hid (HX4.out.trans y5)
    have hll : (l.length : Int) ≤ 5000 := by have := HLL.out; omega
    have hkl : (k : Int) ≤ 5000 := by omega
    have mx := fun (ty : TypeId) (w : World) => run_maxI (P := Try.prog) m 0 #[3, 3] ty w
    have mn := fun (ty : TypeId) (w : World) => run_minI (P := Try.prog) (max m 0) (l.length : Int) #[3, 3] ty w
    have hne : ((k : Int) != min (max m 0) (l.length : Int)) = false := by rw [bne_eq_false_iff_eq]; omega
    have hne2 : ((k : Int) == min (max m 0) (l.length : Int)) = true := by rw [beq_iff_eq]; omega
    clear o4 o5 y5 hl hk hkm
    go_wp2_with fail
    clear hne hne2 mx mn
    go_loopw [8] (fun s wr => ∃ i : Nat, i ≤ k ∧ s = .int .i64 (i : Int) ∧ Ext w5 wr) (fun s _ => k - (intOf s).toNat)
    case atStart => exact ⟨0, Nat.zero_le _, rfl, Mod.refl _ _⟩
    case round =>
      obtain ⟨i, hi, rfl, x⟩ := hrel
      have HX6 := Lib.hid x
      by_cases hil : i < k
      · have hil' : (i : Int) < (k : Int) := by omega
        have hil2 : i < l.length := by have := HK.out.2; omega
        have hil3 : i < (l.take m.toNat).length := by have := HK.out.1; omega
        have i0 := HI4.out i hil2
        have i1 := HI5.out i hil
        obtain ⟨e0, e1⟩ := pair_cells2 (HV.out.1.ext x) hil2
        obtain ⟨e2, e3⟩ := pair_cells2 (HV.out.2.ext x) hil3
        have hpe : prn (l.take m.toNat) i = prn l i := by rw [prn_eq hil3, prn_eq hil2]; simp
        rw [hpe] at e2 e3
        obtain ⟨p1, hp1⟩ : ∃ p, p = (prn l i).1 := ⟨_, rfl⟩
        obtain ⟨p2, hp2⟩ : ∃ p, p = (prn l i).2 := ⟨_, rfl⟩
        obtain ⟨A1, hA1⟩ : ∃ A, A = at_ v (i * 2) := ⟨_, rfl⟩
        obtain ⟨A2, hA2⟩ : ∃ A, A = at_ u (i * 2) := ⟨_, rfl⟩
        rw [← hp1, ← hA1] at e0
        rw [← hp2, ← hA1] at e1
        rw [← hp1, ← hA2] at e2
        rw [← hp2, ← hA2] at e3
        rw [← hA1] at i0
        rw [← hA2] at i1
        have KG : Hid (∀ w', Ext wr w' → w'.cell? A1 = some (.int .i64 p1) ∧ w'.cell? ⟨A1.block, A1.off + 1, none⟩ = some (.int .i64 p2) ∧ w'.cell? A2 = some (.int .i64 p1) ∧ w'.cell? ⟨A2.block, A2.off + 1, none⟩ = some (.int .i64 p2)) := Lib.hid fun w' z => ⟨Ext.cell z e0, Ext.cell z e1, Ext.cell z e2, Ext.cell z e3⟩
        have hq := run_neq_pair (P := Try.prog) (T := 32) (e := 3) Try.underlying32 Try.underlying3 (by kernel_rfl) p1 p2 p1 p2
        have hg : ∀ (op : BinOp) (x y : Operand) (w' : World), (eqGuard op 32 x y (.agg #[.int .i64 p1, .int .i64 p2]) (.agg #[.int .i64 p1, .int .i64 p2])).run Try.prog w' = .ok () w' := fun op x y w' => run_eqGuard_agg w' op _ x y _ _ (by kernel_rfl)
        rw [show (!(p1 == p1 && p2 == p2)) = false by simp] at hq
        clear x hp1 hp2 hA1 hA2 hpe
        go_upto_region 15 with fail
        clear e0 e1 e2 e3
        refine wp_region_plan [(0, true), (1, true), (2, true), (3, true), (4, true), (5, true), (6, true), (7, true), (8, true)] (fun w' => w'.cell? A1 = some (.int .i64 p1) ∧ w'.cell? ⟨A1.block, A1.off + 1, none⟩ = some (.int .i64 p2) ∧ w'.cell? A2 = some (.int .i64 p1) ∧ w'.cell? ⟨A2.block, A2.off + 1, none⟩ = some (.int .i64 p2)) (by kernel_rfl) (by kernel_rfl) (by kernel_rfl) (fun _ d _ _ _ h => by cases d <;> exact h) (KG.out _ (Mod.drew (Mod.refl _ _))) ?_
        simp only [planL, getO]
        iterate 9 (refine plan_take (v := ?_) (by rfl) (fun wS hS => ?_) ?_; rotate_left; (focus ((try dsimp only at hS); go_simp; (try with_reducible rfl); done)); (try simp only [Act.put, List.setIfInBounds_toArray, List.set_cons_zero, List.set_cons_succ]))
        refine plan_nil ?_
        go_wp2_with fail
        go_roundw
        case rel => exact ⟨i + 1, by omega, by go_num, HX6.out.drew⟩
        case measure => simp [intOf]; omega
      · have hil' : ¬ (i : Int) < (k : Int) := by omega
        clear x
        go_wp2_with fail
        refine (first15_any _).mono ?_
        rintro e w7 ⟨rfl, x7⟩
        go_wp2_with fail
        go_ret
        exact ⟨rfl, HW.out.2.2.trans (HX5.out.trans (HX6.out.trans x7))⟩
end Go.Proofs.Ytkibdabbjbcboaa
