/-
  The contracts of renref14.wrote and renref14.read. No condition. The contract of renref14.May. No condition.
-/
import Derived.Test.YtbhocahmhmafmaaGreatVRvAt
import Derived.Test.YtbhocahmhmafmaaGreatVRvLog
import Derived.Test.YtbhocahmhmafmaaGreatVEvMay
namespace Go.Proofs.YtbhocahmhmafmaaGreat
open Go.Ren Go.RowKit
set_option linter.unusedVariables false
theorem rwrote_any (w : World) (e : Ev) (v : Vs) (h : EvAt w e v) (a : Int) (p : Nat) (ha : I64 a) (hp : a - e.at_ = (p : Int)) (hw : e.wr.length ≤ 8) (hpl : p < e.wr.length) :
 Calls Tryz.prog 164 #[evV e v, .int .i64 a] w fun r w' => r = .returned (.int .u8 (e.wr[p].toNat : Int)) ∧ Ext w w' := by
 obtain ⟨k1, k2, k3, t1, t2, t3⟩ := ev_facts h
 have hs : IntKind.i64.wrap (a - e.at_) = (p : Int) := by rw [IntWalk.i64_in _ (by omega)]; exact hp
 obtain ⟨w0, hw0⟩ : ∃ w0, w0 = w.alloc (.cells (evArr e v) 116) := ⟨_, rfl⟩
 obtain ⟨g0, hg0⟩ : ∃ g, g = w.heap.size := ⟨_, rfl⟩
 have x0 : Ext w w0 := by rw [hw0]; exact (Mod.refl _ _).alloc _
 have b0 : REvBox w0 g0 e v := ⟨by rw [hw0, hg0]; exact heap_alloc_new _ _⟩
 obtain ⟨d0, d1, d2, d3, d4, d5, d6, d7, d8, d9⟩ := b0.cells
 have i0 := Sl.run_idx (P := Tryz.prog) (h.ext x0).wr IB.und IB.size .i64 p hpl
 simp only [Nat.mul_one] at i0
 have c0 := BytesAt.cell (h.ext x0).wr hpl
 have HW := Lib.hid (And.intro hw0 (And.intro hg0 x0))
 clear hw0 hg0 x0 b0 h hp ha hw
 unfold evV
 go_enter Tryz.func164, Tryz.ntmps164
 go_upto_region 1 with fail
 rw [← HW.out.1, ← HW.out.2.1]
 clear t1 t2 t3
 go_wp2_with fail
 go_ret
 exact ⟨rfl, HW.out.2.2⟩
set_option maxRecDepth 100000 in
set_option maxHeartbeats 3200000 in
theorem rvread_any (w : World) (ve vp : Value) (V : Nat → Vs) (L : Lg) (h : LogIn w ve vp V L) (n : Nat) (hn : n < L.ev.length) (hf : ∀ i, i ≤ n → evFields (evn L.ev i) = true) (hlen : L.ev.length ≤ 1000) :
 Calls Tryz.prog 140 #[ve, .int .i64 (n : Int)] w (FPost (evReads L.ev n) w) := by
 have q1 := Sl.cells_eq h.row
 have s1 := Sl.run_st (P := Tryz.prog) h.row
 have HI := Lib.hid (h.row.run_idx (P := Tryz.prog) IRe.und IRe.size .i64)
 have i0 := HI.out n hn
 obtain ⟨c0, c1, c2, c3, c4, c5, c6, c7, c8, c9⟩ := h.cells hn
 have he0 := h.ev n hn
 have hfs := evFields_sizes (hf n (Nat.le_refl _))
 obtain ⟨e, he⟩ : ∃ e, e = evn L.ev n := ⟨_, rfl⟩
 obtain ⟨v, hv⟩ : ∃ v, v = V n := ⟨_, rfl⟩
 rw [← he] at c0 c1 c2 c3 c4 c5 c6 he0 hfs
 rw [← hv] at c7 c8 c9 he0
 obtain ⟨k1, k2, k3, t1, t2, t3⟩ := ev_facts he0
 have l3 := he0.fr.sl.run_len (P := Tryz.prog) II.und 3
 obtain ⟨z1, z2, z3, z4, -⟩ := hfs
 have HJ := Lib.hid (he0.fr.sl.run_idx (P := Tryz.prog) II.und II.size .i64)
 have HK := Lib.hid (Sl.run_idx (P := Tryz.prog) he0.rd IB.und IB.size .i64)
 obtain ⟨A, hA⟩ : ∃ A, A = at_ ve (n * 10) := ⟨_, rfl⟩
 rw [← hA] at i0 c0 c1 c2 c3 c4 c5 c6 c7 c8 c9
 obtain ⟨w1, hw1⟩ : ∃ w1, w1 = w.alloc (.cells (evArr e v) 116) := ⟨_, rfl⟩
 obtain ⟨g1, hg1⟩ : ∃ g, g = w.heap.size := ⟨_, rfl⟩
 have x1 : Ext w w1 := by rw [hw1]; exact (Mod.refl _ _).alloc _
 have b1 : REvBox w1 g1 e v := ⟨by rw [hw1, hg1]; exact heap_alloc_new _ _⟩
 have HE := Lib.hid (And.intro hw1 (And.intro hg1 (And.intro x1 (And.intro he (And.intro hv (And.intro hf z2))))))
 have KE : Hid (∀ w', Ext w1 w' → LogIn w' ve vp V L ∧ REvBox w' g1 e v ∧ EvAt w' e v) := Lib.hid fun w' x => ⟨h.ext (x1.trans x), b1.ext x, he0.ext (x1.trans x)⟩
 obtain ⟨B, hB⟩ : ∃ B, B = evReads L.ev n := ⟨_, rfl⟩
 rw [← hB]
 have HB := Lib.hid hB
 obtain ⟨a0, a1, a2, a3, a4, a5, a6, a7, a8, a9⟩ := b1.cells
 clear hB h he hv hA he0 hw1 hg1 x1 b1 hf z2
 go_enter Tryz.func140, Tryz.ntmps140
 go_upto_region 2 with fail
 rw [← HE.out.1, ← HE.out.2.1]
 go_wp2_with fail
 have hfr : e.fr.length ≤ 9223372036854775807 := by omega
 clear a0 a1 a2 a3 a4 a5 a6 a7 a8 a9 c0 c1 c2 c3 c4 c5 c6 c7 c8 c9 t1 t2 t3 s1 i0
 go_loopw [6] (fun s17 wr => ∃ k : Nat, k ≤ e.fr.length ∧ s17 = .int .i64 (k : Int) ∧ (∀ j, j < k → evRead1 L.ev n j = true) ∧ Ext w1 wr) (fun i _ => e.fr.length - (intOf i).toNat)
 case atStart => exact ⟨0, Nat.zero_le _, rfl, fun j hj => absurd hj (Nat.not_lt_zero _), Mod.refl _ _⟩
 case round =>
  obtain ⟨k, hk, rfl, hp, x⟩ := hrel
  have HP := Lib.hid (And.intro hp x)
  clear hp
  obtain ⟨hlg, hb1, hea⟩ := KE.out wr x
  obtain ⟨a0, a1, a2, a3, a4, a5, a6, a7, a8, a9⟩ := hb1.cells
  clear x
  by_cases hlt : k < e.fr.length
  · have hlt' : (k : Int) < (e.fr.length : Int) := by omega
    have hrl : k < e.rd.length := by have := HE.out.2.2.2.2.2.2; omega
    have hr1 := evRead1_eq HE.out.2.2.2.1 hlt hrl
    have i1 := HJ.out k hlt
    have i2 := HK.out k hrl
    simp only [Nat.mul_one] at i1 i2
    have cF := hea.fr.cell hlt
    have cR := BytesAt.cell hea.rd hrl
    have hxi := hea.fr.ok _ (List.getElem_mem hlt)
    obtain ⟨x, hx⟩ : ∃ x, x = e.fr[k] := ⟨_, rfl⟩
    obtain ⟨y, hy⟩ : ∃ y, y = e.rd[k] := ⟨_, rfl⟩
    rw [← hx] at hr1 cF hxi
    rw [← hy] at hr1 cR
    clear hx hy
    by_cases hx1 : x = -1
    · have hx1' : (x == -1) = true := by simpa using hx1
      rw [if_pos hx1] at hr1
      by_cases hy0 : y = 0
      · have hy' : ((y.toNat : Int) != 0) = false := by subst hy0; rfl
        have hr2 : evRead1 L.ev n k = true := by rw [hr1]; simpa using hy0
        have HR := Lib.hid hr2
        clear hr1 hr2 hy0 hx1 hlg hb1 hea hxi
        go_wp2_with fail
        go_roundw
        case rel => exact ⟨k + 1, by omega, by go_num, upto_succ HP.out.1 HR.out, HP.out.2⟩
        case measure => simp [intOf]; omega
      · have hy' : ((y.toNat : Int) != 0) = true := by rw [u8_nz]; simpa using hy0
        have hr2 : evRead1 L.ev n k = false := by rw [hr1]; simpa using hy0
        have HR := Lib.hid (evReads_false HE.out.2.2.2.1 hlt hr2)
        clear hr1 hr2 hy0 hx1 hlg hb1 hea hxi
        go_wp2_with fail
        go_ret
        exact ⟨ret_bool (by rw [HB.out]; exact HR.out.symm), HE.out.2.2.1.trans HP.out.2⟩
    · have hx1' : (x == -1) = false := by simpa using hx1
      rw [if_neg hx1] at hr1
      by_cases hx2 : x < 0 ∨ (n : Int) ≤ x
      · rw [if_pos hx2] at hr1
        have HR := Lib.hid (evReads_false HE.out.2.2.2.1 hlt hr1)
        clear hr1 hlg hb1 hea hxi hx1
        by_cases hx3 : x < 0
        · have hd3 : decide (x < 0) = true := by simpa using hx3
          clear hx2
          go_upto_region 9 with fail
          clear i1 i2 cF cR a0 a1 a2 a3 a4 a5 a6 a7 a8 a9
          have FD : Unit := ()
          refine wp_region_plan [(0, true), (1, true), (2, true), (3, true), (4, true), (5, true), (6, true), (7, true), (8, true), (9, true), (10, true), (11, true), (12, false), (13, true), (14, true), (15, true), (16, true), (17, true), (18, true), (19, true), (20, true), (21, true), (22, true), (23, true), (24, true), (25, true), (26, false), (27, true), (28, true), (29, true), (30, true), (31, true), (32, true), (33, true), (34, true), (35, true), (36, true), (37, true), (39, true), (40, true), (41, true), (42, true), (43, true), (38, false), (44, true), (45, true)] (fun _ => True) (by kernel_rfl) (by kernel_rfl) (by kernel_rfl) (fun _ d _ _ _ h => by cases d <;> exact h) (trivial) ?_
          simp only [planL, getO]
          iterate 3 (refine plan_take (v := ?_) (by rfl) (fun wS hS => ?_) ?_; rotate_left; (focus ((try dsimp only at hS); go_simp; (try with_reducible rfl); done)); (try simp only [Act.put, List.setIfInBounds_toArray, List.set_cons_zero, List.set_cons_succ]))
          iterate 3 (refine plan_skip (by rfl) ?_; (try simp only [Act.put, List.setIfInBounds_toArray, List.set_cons_zero, List.set_cons_succ]))
          iterate 2 (refine plan_take (v := ?_) (by rfl) (fun wS hS => ?_) ?_; rotate_left; (focus ((try dsimp only at hS); go_simp; (try with_reducible rfl); done)); (try simp only [Act.put, List.setIfInBounds_toArray, List.set_cons_zero, List.set_cons_succ]))
          iterate 6 (refine plan_skip (by rfl) ?_; (try simp only [Act.put, List.setIfInBounds_toArray, List.set_cons_zero, List.set_cons_succ]))
          iterate 2 (refine plan_take (v := ?_) (by rfl) (fun wS hS => ?_) ?_; rotate_left; (focus ((try dsimp only at hS); go_simp; (try with_reducible rfl); done)); (try simp only [Act.put, List.setIfInBounds_toArray, List.set_cons_zero, List.set_cons_succ]))
          iterate 12 (refine plan_skip (by rfl) ?_; (try simp only [Act.put, List.setIfInBounds_toArray, List.set_cons_zero, List.set_cons_succ]))
          iterate 2 (refine plan_take (v := ?_) (by rfl) (fun wS hS => ?_) ?_; rotate_left; (focus ((try dsimp only at hS); go_simp; (try with_reducible rfl); done)); (try simp only [Act.put, List.setIfInBounds_toArray, List.set_cons_zero, List.set_cons_succ]))
          iterate 15 (refine plan_skip (by rfl) ?_; (try simp only [Act.put, List.setIfInBounds_toArray, List.set_cons_zero, List.set_cons_succ]))
          (refine plan_take (v := ?_) (by rfl) (fun wS hS => ?_) ?_; rotate_left; (focus ((try dsimp only at hS); go_simp; (try with_reducible rfl); done)); (try simp only [Act.put, List.setIfInBounds_toArray, List.set_cons_zero, List.set_cons_succ]))
          refine plan_nil ?_
          go_wp2_with fail
          go_ret
          exact ⟨ret_bool (by rw [HB.out]; exact HR.out.symm), HE.out.2.2.1.trans (HP.out.2.trans (Mod.drew (Mod.refl _ _)))⟩
        · have hx4 : (n : Int) ≤ x := by omega
          have hd3 : decide (x < 0) = false := by simpa using hx3
          have hd4 : decide ((n : Int) ≤ x) = true := by simpa using hx4
          clear hx2
          go_upto_region 9 with fail
          clear i1 i2 cF cR a0 a1 a2 a3 a4 a5 a6 a7 a8 a9
          refine wp_region_plan [(0, true), (1, true), (2, true), (3, true), (4, true), (5, true), (6, true), (7, true), (8, true), (9, true), (10, true), (11, true), (12, false), (13, true), (14, true), (15, true), (16, true), (17, true), (18, true), (19, true), (20, true), (21, true), (22, true), (23, true), (24, true), (25, true), (26, false), (27, true), (28, true), (29, true), (30, true), (31, true), (32, true), (33, true), (34, true), (35, true), (36, true), (37, true), (39, true), (40, true), (41, true), (42, true), (43, true), (38, false), (44, true), (45, true)] (fun _ => True) (by kernel_rfl) (by kernel_rfl) (by kernel_rfl) (fun _ d _ _ _ h => by cases d <;> exact h) (trivial) ?_
          simp only [planL, getO]
          iterate 8 (refine plan_take (v := ?_) (by rfl) (fun wS hS => ?_) ?_; rotate_left; (focus ((try dsimp only at hS); go_simp; (try with_reducible rfl); done)); (try simp only [Act.put, List.setIfInBounds_toArray, List.set_cons_zero, List.set_cons_succ]))
          iterate 6 (refine plan_skip (by rfl) ?_; (try simp only [Act.put, List.setIfInBounds_toArray, List.set_cons_zero, List.set_cons_succ]))
          iterate 2 (refine plan_take (v := ?_) (by rfl) (fun wS hS => ?_) ?_; rotate_left; (focus ((try dsimp only at hS); go_simp; (try with_reducible rfl); done)); (try simp only [Act.put, List.setIfInBounds_toArray, List.set_cons_zero, List.set_cons_succ]))
          iterate 12 (refine plan_skip (by rfl) ?_; (try simp only [Act.put, List.setIfInBounds_toArray, List.set_cons_zero, List.set_cons_succ]))
          iterate 2 (refine plan_take (v := ?_) (by rfl) (fun wS hS => ?_) ?_; rotate_left; (focus ((try dsimp only at hS); go_simp; (try with_reducible rfl); done)); (try simp only [Act.put, List.setIfInBounds_toArray, List.set_cons_zero, List.set_cons_succ]))
          iterate 15 (refine plan_skip (by rfl) ?_; (try simp only [Act.put, List.setIfInBounds_toArray, List.set_cons_zero, List.set_cons_succ]))
          (refine plan_take (v := ?_) (by rfl) (fun wS hS => ?_) ?_; rotate_left; (focus ((try dsimp only at hS); go_simp; (try with_reducible rfl); done)); (try simp only [Act.put, List.setIfInBounds_toArray, List.set_cons_zero, List.set_cons_succ]))
          refine plan_nil ?_
          go_wp2_with fail
          go_ret
          exact ⟨ret_bool (by rw [HB.out]; exact HR.out.symm), HE.out.2.2.1.trans (HP.out.2.trans (Mod.drew (Mod.refl _ _)))⟩
      · rw [if_neg hx2] at hr1
        obtain ⟨j, rfl⟩ := Int.eq_ofNat_of_zero_le (show 0 ≤ x by omega)
        have hjn : j < n := by omega
        have hx3 : ¬ (j : Int) < 0 := by omega
        have hx4 : ¬ (n : Int) ≤ (j : Int) := by omega
        have hd3 : decide ((j : Int) < 0) = false := by simp
        have hd4 : decide ((n : Int) ≤ (j : Int)) = false := by simpa using hx4
        simp only [Int.toNat_natCast] at hr1
        have i3 := HI.out j (by omega)
        have hfj := evFields_sizes (HE.out.2.2.2.2.2.1 j (by omega))
        have hej := hlg.ev j (by omega)
        have hcj := fun w' (X : Ext wr w') => (hlg.ext X).cells (i := j) (by omega)
        obtain ⟨e2, he2⟩ : ∃ e, e = evn L.ev j := ⟨_, rfl⟩
        obtain ⟨v2, hv2⟩ : ∃ v, v = V j := ⟨_, rfl⟩
        obtain ⟨A2, hA2⟩ : ∃ A, A = at_ ve (j * 10) := ⟨_, rfl⟩
        rw [← hA2] at i3
        rw [← he2] at hfj hr1 hej
        rw [← hv2] at hej
        have hkey : (∀ w', Ext wr w' → (w'.cell? A2 = some (.int .i64 (e2).ag) ∧ w'.cell? ⟨A2.block, A2.off + 1, none⟩ = some (.int .i64 (e2).kind) ∧ w'.cell? ⟨A2.block, A2.off + 2, none⟩ = some (.bool (e2).seq) ∧ w'.cell? ⟨A2.block, A2.off + 3, none⟩ = some (.bool (e2).nt) ∧ w'.cell? ⟨A2.block, A2.off + 4, none⟩ = some (.int .i64 (e2).blk) ∧ w'.cell? ⟨A2.block, A2.off + 5, none⟩ = some (.int .i64 (e2).at_) ∧ w'.cell? ⟨A2.block, A2.off + 6, none⟩ = some (.int .i64 (e2).size) ∧ w'.cell? ⟨A2.block, A2.off + 7, none⟩ = some v2.r ∧ w'.cell? ⟨A2.block, A2.off + 8, none⟩ = some v2.w ∧ w'.cell? ⟨A2.block, A2.off + 9, none⟩ = some v2.f ∧ w'.cell? ⟨g1, 4, none⟩ = some (.int .i64 e.blk) ∧ w'.cell? ⟨g1, 5, none⟩ = some (.int .i64 e.at_) ∧ w'.cell? ⟨g1, 7, none⟩ = some v.r ∧ w'.cell? (at_ v.r k) = some (.int .u8 (y.toNat : Int))) ∧ EvAt w' e2 v2) := fun w' X => by
         have hb := (hb1.ext X).cells
         have hc := hcj w' X
         rw [← he2, ← hv2, ← hA2] at hc
         obtain ⟨y0, y1, y2, y3, y4, y5, y6, y7, y8, y9⟩ := hc
         exact ⟨⟨y0, y1, y2, y3, y4, y5, y6, y7, y8, y9, hb.2.2.2.2.1, hb.2.2.2.2.2.1, hb.2.2.2.2.2.2.2.1, X.cell cR⟩, hej.ext X⟩
        have KY := Lib.hid hkey
        obtain ⟨m1, m2, m3, u1, u2, u3⟩ := ev_facts hej
        have hs1 : IntKind.i64.wrap (e.at_ + (k : Int)) = e.at_ + k := IntWalk.i64_in _ (by omega)
        have HKS : Hid (I64 (e.at_ + (k : Int))) := Lib.hid (by unfold I64; omega)
        have HR := Lib.hid (And.intro hr1 hfj)
        have HX1 := Lib.hid hx1
        clear hr1 hfj hlg hb1 hea hej he2 hv2 hA2 hkey hcj hxi hx1 hx2
        go_upto_region 9 with fail
        clear cF cR a0 a1 a2 a3 a4 a5 a6 a7 a8 a9 i1
        by_cases hwr : wrsB e2 = true
        case neg =>
         have hwf : wrsB e2 = false := by simpa using hwr
         have hr2 : evRead1 L.ev n k = false := by rw [HR.out.1, hwf]; rfl
         have HX := Lib.hid (evReads_false HE.out.2.2.2.1 hlt hr2)
         have HWR := Lib.hid hwf
         clear hwr hwf hr2
         refine wp_region_plan [(0, true), (1, true), (2, true), (3, true), (4, true), (5, true), (6, true), (7, true), (8, true), (9, true), (10, true), (11, true), (12, false), (13, true), (14, true), (15, true), (16, true), (17, true), (18, true), (19, true), (20, true), (21, true), (22, true), (23, true), (24, true), (25, true), (26, false), (27, true), (28, true), (29, true), (30, true), (31, true), (32, true), (33, true), (34, true), (35, true), (36, true), (37, true), (39, true), (40, true), (41, true), (42, true), (43, true), (38, false), (44, true), (45, true)] (fun w' => w'.cell? A2 = some (.int .i64 (e2).ag) ∧ w'.cell? ⟨A2.block, A2.off + 1, none⟩ = some (.int .i64 (e2).kind) ∧ w'.cell? ⟨A2.block, A2.off + 2, none⟩ = some (.bool (e2).seq) ∧ w'.cell? ⟨A2.block, A2.off + 3, none⟩ = some (.bool (e2).nt) ∧ w'.cell? ⟨A2.block, A2.off + 4, none⟩ = some (.int .i64 (e2).blk) ∧ w'.cell? ⟨A2.block, A2.off + 5, none⟩ = some (.int .i64 (e2).at_) ∧ w'.cell? ⟨A2.block, A2.off + 6, none⟩ = some (.int .i64 (e2).size) ∧ w'.cell? ⟨A2.block, A2.off + 7, none⟩ = some v2.r ∧ w'.cell? ⟨A2.block, A2.off + 8, none⟩ = some v2.w ∧ w'.cell? ⟨A2.block, A2.off + 9, none⟩ = some v2.f ∧ w'.cell? ⟨g1, 4, none⟩ = some (.int .i64 e.blk) ∧ w'.cell? ⟨g1, 5, none⟩ = some (.int .i64 e.at_) ∧ w'.cell? ⟨g1, 7, none⟩ = some v.r ∧ w'.cell? (at_ v.r k) = some (.int .u8 (y.toNat : Int))) (by kernel_rfl) (by kernel_rfl) (by kernel_rfl) (fun _ d _ _ _ h => by cases d <;> exact h) ((KY.out _ (Mod.drew (Mod.refl _ _))).1) ?_
         simp only [planL, getO]
         iterate 12 (refine plan_take (v := ?_) (by rfl) (fun wS hS => ?_) ?_; rotate_left; (focus ((try dsimp only at hS); go_simp; (try with_reducible rfl); done)); (try simp only [Act.put, List.setIfInBounds_toArray, List.set_cons_zero, List.set_cons_succ]))
         refine plan_call (fun K hK => ?_)
         go_simp
         go_at_call 162; refine (rwrites_any _ e2 v2 (KY.out _ (Mod.drew (Mod.refl _ _))).2).mono ?_; rintro en w3 ⟨rfl, y3⟩; have E3 : Ext wr w3 := Mod.trans (Mod.drew (Mod.refl _ _)) y3; rw [HWR.out]
         refine hK.out _ _ ((KY.out _ E3).1) ?_
         clear hK K
         (try simp only [Act.put, List.setIfInBounds_toArray, List.set_cons_zero, List.set_cons_succ])
         iterate 3 (refine plan_take (v := ?_) (by rfl) (fun wS hS => ?_) ?_; rotate_left; (focus ((try dsimp only at hS); go_simp; (try with_reducible rfl); done)); (try simp only [Act.put, List.setIfInBounds_toArray, List.set_cons_zero, List.set_cons_succ]))
         iterate 12 (refine plan_skip (by rfl) ?_; (try simp only [Act.put, List.setIfInBounds_toArray, List.set_cons_zero, List.set_cons_succ]))
         iterate 2 (refine plan_take (v := ?_) (by rfl) (fun wS hS => ?_) ?_; rotate_left; (focus ((try dsimp only at hS); go_simp; (try with_reducible rfl); done)); (try simp only [Act.put, List.setIfInBounds_toArray, List.set_cons_zero, List.set_cons_succ]))
         iterate 15 (refine plan_skip (by rfl) ?_; (try simp only [Act.put, List.setIfInBounds_toArray, List.set_cons_zero, List.set_cons_succ]))
         (refine plan_take (v := ?_) (by rfl) (fun wS hS => ?_) ?_; rotate_left; (focus ((try dsimp only at hS); go_simp; (try with_reducible rfl); done)); (try simp only [Act.put, List.setIfInBounds_toArray, List.set_cons_zero, List.set_cons_succ]))
         refine plan_nil ?_
         go_wp2_with fail
         go_ret
         exact ⟨ret_bool (by rw [HB.out]; exact HX.out.symm), HE.out.2.2.1.trans (HP.out.2.trans E3)⟩
        case pos =>
         by_cases hcv : evCov e2 e.blk (e.at_ + k) = true
         case neg =>
          have hcf : evCov e2 e.blk (e.at_ + k) = false := by simpa using hcv
          have hr2 : evRead1 L.ev n k = false := by rw [HR.out.1, hcf, Bool.and_false]; rfl
          have HX := Lib.hid (evReads_false HE.out.2.2.2.1 hlt hr2)
          have HWR := Lib.hid hwr
          have HCV := Lib.hid hcf
          clear hwr hcv hcf hr2
          refine wp_region_plan [(0, true), (1, true), (2, true), (3, true), (4, true), (5, true), (6, true), (7, true), (8, true), (9, true), (10, true), (11, true), (12, false), (13, true), (14, true), (15, true), (16, true), (17, true), (18, true), (19, true), (20, true), (21, true), (22, true), (23, true), (24, true), (25, true), (26, false), (27, true), (28, true), (29, true), (30, true), (31, true), (32, true), (33, true), (34, true), (35, true), (36, true), (37, true), (39, true), (40, true), (41, true), (42, true), (43, true), (38, false), (44, true), (45, true)] (fun w' => w'.cell? A2 = some (.int .i64 (e2).ag) ∧ w'.cell? ⟨A2.block, A2.off + 1, none⟩ = some (.int .i64 (e2).kind) ∧ w'.cell? ⟨A2.block, A2.off + 2, none⟩ = some (.bool (e2).seq) ∧ w'.cell? ⟨A2.block, A2.off + 3, none⟩ = some (.bool (e2).nt) ∧ w'.cell? ⟨A2.block, A2.off + 4, none⟩ = some (.int .i64 (e2).blk) ∧ w'.cell? ⟨A2.block, A2.off + 5, none⟩ = some (.int .i64 (e2).at_) ∧ w'.cell? ⟨A2.block, A2.off + 6, none⟩ = some (.int .i64 (e2).size) ∧ w'.cell? ⟨A2.block, A2.off + 7, none⟩ = some v2.r ∧ w'.cell? ⟨A2.block, A2.off + 8, none⟩ = some v2.w ∧ w'.cell? ⟨A2.block, A2.off + 9, none⟩ = some v2.f ∧ w'.cell? ⟨g1, 4, none⟩ = some (.int .i64 e.blk) ∧ w'.cell? ⟨g1, 5, none⟩ = some (.int .i64 e.at_) ∧ w'.cell? ⟨g1, 7, none⟩ = some v.r ∧ w'.cell? (at_ v.r k) = some (.int .u8 (y.toNat : Int))) (by kernel_rfl) (by kernel_rfl) (by kernel_rfl) (fun _ d _ _ _ h => by cases d <;> exact h) ((KY.out _ (Mod.drew (Mod.refl _ _))).1) ?_
          simp only [planL, getO]
          iterate 12 (refine plan_take (v := ?_) (by rfl) (fun wS hS => ?_) ?_; rotate_left; (focus ((try dsimp only at hS); go_simp; (try with_reducible rfl); done)); (try simp only [Act.put, List.setIfInBounds_toArray, List.set_cons_zero, List.set_cons_succ]))
          refine plan_call (fun K hK => ?_)
          go_simp
          go_at_call 162; refine (rwrites_any _ e2 v2 (KY.out _ (Mod.drew (Mod.refl _ _))).2).mono ?_; rintro en w3 ⟨rfl, y3⟩; have E3 : Ext wr w3 := Mod.trans (Mod.drew (Mod.refl _ _)) y3; rw [HWR.out]
          refine hK.out _ _ ((KY.out _ E3).1) ?_
          clear hK K
          (try simp only [Act.put, List.setIfInBounds_toArray, List.set_cons_zero, List.set_cons_succ])
          iterate 13 (refine plan_take (v := ?_) (by rfl) (fun wS hS => ?_) ?_; rotate_left; (focus ((try dsimp only at hS); go_simp; (try with_reducible rfl); done)); (try simp only [Act.put, List.setIfInBounds_toArray, List.set_cons_zero, List.set_cons_succ]))
          refine plan_call (fun K hK => ?_)
          go_simp
          go_at_call 163; refine (rcovers_any _ e2 v2 (KY.out _ E3).2 _ _ HKS.out).mono ?_; rintro en w5 ⟨rfl, y5⟩; have E5 : Ext wr w5 := Mod.trans E3 y5; rw [HCV.out]
          refine hK.out _ _ ((KY.out _ E5).1) ?_
          clear hK K
          (try simp only [Act.put, List.setIfInBounds_toArray, List.set_cons_zero, List.set_cons_succ])
          iterate 3 (refine plan_take (v := ?_) (by rfl) (fun wS hS => ?_) ?_; rotate_left; (focus ((try dsimp only at hS); go_simp; (try with_reducible rfl); done)); (try simp only [Act.put, List.setIfInBounds_toArray, List.set_cons_zero, List.set_cons_succ]))
          iterate 15 (refine plan_skip (by rfl) ?_; (try simp only [Act.put, List.setIfInBounds_toArray, List.set_cons_zero, List.set_cons_succ]))
          (refine plan_take (v := ?_) (by rfl) (fun wS hS => ?_) ?_; rotate_left; (focus ((try dsimp only at hS); go_simp; (try with_reducible rfl); done)); (try simp only [Act.put, List.setIfInBounds_toArray, List.set_cons_zero, List.set_cons_succ]))
          refine plan_nil ?_
          go_wp2_with fail
          go_ret
          exact ⟨ret_bool (by rw [HB.out]; exact HX.out.symm), HE.out.2.2.1.trans (HP.out.2.trans E5)⟩
         case pos =>
          obtain ⟨f1, f2, f3, f4, f5, f6, f7, f8, f9, -⟩ := HR.out.2
          have hwl := f9 hwr
          have hco := hcv
          unfold evCov withB at hco
          simp only [Bool.and_eq_true, decide_eq_true_eq] at hco
          obtain ⟨p, hpp⟩ : ∃ p : Nat, e.at_ + k - e2.at_ = p := ⟨(e.at_ + k - e2.at_).toNat, by omega⟩
          have hpl : p < e2.wr.length := by omega
          have HPP := Lib.hid hpp
          have HWL : Hid (e2.wr.length ≤ 8) := Lib.hid (by omega)
          have hr2 : evRead1 L.ev n k = (e2.wr[p] == y) := by
           rw [HR.out.1, hwr, hcv, hpp]
           simp [List.getD_eq_getElem?_getD, List.getElem?_eq_getElem hpl]
          have HR2 := Lib.hid hr2
          have HWR := Lib.hid hwr
          have HCV := Lib.hid hcv
          have hu := u8_ne e2.wr[p] y
          clear f1 f2 f3 f4 f5 f6 f7 f8 f9 hwl hco hpp hr2 hwr hcv
          by_cases hey : e2.wr[p] = y
          · have hu2 : ((e2.wr[p].toNat : Int) != (y.toNat : Int)) = false := by rw [hu]; simpa using hey
            have HX : Hid (evRead1 L.ev n k = true) := Lib.hid (by rw [HR2.out]; simpa using hey)
            clear hu hey
            refine wp_region_plan [(0, true), (1, true), (2, true), (3, true), (4, true), (5, true), (6, true), (7, true), (8, true), (9, true), (10, true), (11, true), (12, false), (13, true), (14, true), (15, true), (16, true), (17, true), (18, true), (19, true), (20, true), (21, true), (22, true), (23, true), (24, true), (25, true), (26, false), (27, true), (28, true), (29, true), (30, true), (31, true), (32, true), (33, true), (34, true), (35, true), (36, true), (37, true), (39, true), (40, true), (41, true), (42, true), (43, true), (38, false), (44, true), (45, true)] (fun w' => w'.cell? A2 = some (.int .i64 (e2).ag) ∧ w'.cell? ⟨A2.block, A2.off + 1, none⟩ = some (.int .i64 (e2).kind) ∧ w'.cell? ⟨A2.block, A2.off + 2, none⟩ = some (.bool (e2).seq) ∧ w'.cell? ⟨A2.block, A2.off + 3, none⟩ = some (.bool (e2).nt) ∧ w'.cell? ⟨A2.block, A2.off + 4, none⟩ = some (.int .i64 (e2).blk) ∧ w'.cell? ⟨A2.block, A2.off + 5, none⟩ = some (.int .i64 (e2).at_) ∧ w'.cell? ⟨A2.block, A2.off + 6, none⟩ = some (.int .i64 (e2).size) ∧ w'.cell? ⟨A2.block, A2.off + 7, none⟩ = some v2.r ∧ w'.cell? ⟨A2.block, A2.off + 8, none⟩ = some v2.w ∧ w'.cell? ⟨A2.block, A2.off + 9, none⟩ = some v2.f ∧ w'.cell? ⟨g1, 4, none⟩ = some (.int .i64 e.blk) ∧ w'.cell? ⟨g1, 5, none⟩ = some (.int .i64 e.at_) ∧ w'.cell? ⟨g1, 7, none⟩ = some v.r ∧ w'.cell? (at_ v.r k) = some (.int .u8 (y.toNat : Int))) (by kernel_rfl) (by kernel_rfl) (by kernel_rfl) (fun _ d _ _ _ h => by cases d <;> exact h) ((KY.out _ (Mod.drew (Mod.refl _ _))).1) ?_
            simp only [planL, getO]
            iterate 12 (refine plan_take (v := ?_) (by rfl) (fun wS hS => ?_) ?_; rotate_left; (focus ((try dsimp only at hS); go_simp; (try with_reducible rfl); done)); (try simp only [Act.put, List.setIfInBounds_toArray, List.set_cons_zero, List.set_cons_succ]))
            refine plan_call (fun K hK => ?_)
            go_simp
            go_at_call 162; refine (rwrites_any _ e2 v2 (KY.out _ (Mod.drew (Mod.refl _ _))).2).mono ?_; rintro en w3 ⟨rfl, y3⟩; have E3 : Ext wr w3 := Mod.trans (Mod.drew (Mod.refl _ _)) y3; rw [HWR.out]
            refine hK.out _ _ ((KY.out _ E3).1) ?_
            clear hK K
            (try simp only [Act.put, List.setIfInBounds_toArray, List.set_cons_zero, List.set_cons_succ])
            iterate 13 (refine plan_take (v := ?_) (by rfl) (fun wS hS => ?_) ?_; rotate_left; (focus ((try dsimp only at hS); go_simp; (try with_reducible rfl); done)); (try simp only [Act.put, List.setIfInBounds_toArray, List.set_cons_zero, List.set_cons_succ]))
            refine plan_call (fun K hK => ?_)
            go_simp
            go_at_call 163; refine (rcovers_any _ e2 v2 (KY.out _ E3).2 _ _ HKS.out).mono ?_; rintro en w5 ⟨rfl, y5⟩; have E5 : Ext wr w5 := Mod.trans E3 y5; rw [HCV.out]
            refine hK.out _ _ ((KY.out _ E5).1) ?_
            clear hK K
            (try simp only [Act.put, List.setIfInBounds_toArray, List.set_cons_zero, List.set_cons_succ])
            iterate 16 (refine plan_take (v := ?_) (by rfl) (fun wS hS => ?_) ?_; rotate_left; (focus ((try dsimp only at hS); go_simp; (try with_reducible rfl); done)); (try simp only [Act.put, List.setIfInBounds_toArray, List.set_cons_zero, List.set_cons_succ]))
            refine plan_call (fun K hK => ?_)
            go_simp
            go_at_call 164; refine (rwrote_any _ e2 v2 (KY.out _ E5).2 _ p HKS.out HPP.out HWL.out hpl).mono ?_; rintro en w6 ⟨rfl, y6⟩; have E6 : Ext wr w6 := Mod.trans E5 y6
            refine hK.out _ _ ((KY.out _ E6).1) ?_
            clear hK K
            (try simp only [Act.put, List.setIfInBounds_toArray, List.set_cons_zero, List.set_cons_succ])
            iterate 2 (refine plan_take (v := ?_) (by rfl) (fun wS hS => ?_) ?_; rotate_left; (focus ((try dsimp only at hS); go_simp; (try with_reducible rfl); done)); (try simp only [Act.put, List.setIfInBounds_toArray, List.set_cons_zero, List.set_cons_succ]))
            refine plan_nil ?_
            go_wp2_with fail
            go_roundw
            case rel => exact ⟨k + 1, by omega, by go_num, upto_succ HP.out.1 HX.out, HP.out.2.trans E6⟩
            case measure => simp [intOf]; omega
          · have hu2 : ((e2.wr[p].toNat : Int) != (y.toNat : Int)) = true := by rw [hu]; simpa using hey
            have HX : Hid (evReads L.ev n = false) := Lib.hid (evReads_false HE.out.2.2.2.1 hlt (by rw [HR2.out]; simpa using hey))
            clear hu hey
            refine wp_region_plan [(0, true), (1, true), (2, true), (3, true), (4, true), (5, true), (6, true), (7, true), (8, true), (9, true), (10, true), (11, true), (12, false), (13, true), (14, true), (15, true), (16, true), (17, true), (18, true), (19, true), (20, true), (21, true), (22, true), (23, true), (24, true), (25, true), (26, false), (27, true), (28, true), (29, true), (30, true), (31, true), (32, true), (33, true), (34, true), (35, true), (36, true), (37, true), (39, true), (40, true), (41, true), (42, true), (43, true), (38, false), (44, true), (45, true)] (fun w' => w'.cell? A2 = some (.int .i64 (e2).ag) ∧ w'.cell? ⟨A2.block, A2.off + 1, none⟩ = some (.int .i64 (e2).kind) ∧ w'.cell? ⟨A2.block, A2.off + 2, none⟩ = some (.bool (e2).seq) ∧ w'.cell? ⟨A2.block, A2.off + 3, none⟩ = some (.bool (e2).nt) ∧ w'.cell? ⟨A2.block, A2.off + 4, none⟩ = some (.int .i64 (e2).blk) ∧ w'.cell? ⟨A2.block, A2.off + 5, none⟩ = some (.int .i64 (e2).at_) ∧ w'.cell? ⟨A2.block, A2.off + 6, none⟩ = some (.int .i64 (e2).size) ∧ w'.cell? ⟨A2.block, A2.off + 7, none⟩ = some v2.r ∧ w'.cell? ⟨A2.block, A2.off + 8, none⟩ = some v2.w ∧ w'.cell? ⟨A2.block, A2.off + 9, none⟩ = some v2.f ∧ w'.cell? ⟨g1, 4, none⟩ = some (.int .i64 e.blk) ∧ w'.cell? ⟨g1, 5, none⟩ = some (.int .i64 e.at_) ∧ w'.cell? ⟨g1, 7, none⟩ = some v.r ∧ w'.cell? (at_ v.r k) = some (.int .u8 (y.toNat : Int))) (by kernel_rfl) (by kernel_rfl) (by kernel_rfl) (fun _ d _ _ _ h => by cases d <;> exact h) ((KY.out _ (Mod.drew (Mod.refl _ _))).1) ?_
            simp only [planL, getO]
            iterate 12 (refine plan_take (v := ?_) (by rfl) (fun wS hS => ?_) ?_; rotate_left; (focus ((try dsimp only at hS); go_simp; (try with_reducible rfl); done)); (try simp only [Act.put, List.setIfInBounds_toArray, List.set_cons_zero, List.set_cons_succ]))
            refine plan_call (fun K hK => ?_)
            go_simp
            go_at_call 162; refine (rwrites_any _ e2 v2 (KY.out _ (Mod.drew (Mod.refl _ _))).2).mono ?_; rintro en w3 ⟨rfl, y3⟩; have E3 : Ext wr w3 := Mod.trans (Mod.drew (Mod.refl _ _)) y3; rw [HWR.out]
            refine hK.out _ _ ((KY.out _ E3).1) ?_
            clear hK K
            (try simp only [Act.put, List.setIfInBounds_toArray, List.set_cons_zero, List.set_cons_succ])
            iterate 13 (refine plan_take (v := ?_) (by rfl) (fun wS hS => ?_) ?_; rotate_left; (focus ((try dsimp only at hS); go_simp; (try with_reducible rfl); done)); (try simp only [Act.put, List.setIfInBounds_toArray, List.set_cons_zero, List.set_cons_succ]))
            refine plan_call (fun K hK => ?_)
            go_simp
            go_at_call 163; refine (rcovers_any _ e2 v2 (KY.out _ E3).2 _ _ HKS.out).mono ?_; rintro en w5 ⟨rfl, y5⟩; have E5 : Ext wr w5 := Mod.trans E3 y5; rw [HCV.out]
            refine hK.out _ _ ((KY.out _ E5).1) ?_
            clear hK K
            (try simp only [Act.put, List.setIfInBounds_toArray, List.set_cons_zero, List.set_cons_succ])
            iterate 16 (refine plan_take (v := ?_) (by rfl) (fun wS hS => ?_) ?_; rotate_left; (focus ((try dsimp only at hS); go_simp; (try with_reducible rfl); done)); (try simp only [Act.put, List.setIfInBounds_toArray, List.set_cons_zero, List.set_cons_succ]))
            refine plan_call (fun K hK => ?_)
            go_simp
            go_at_call 164; refine (rwrote_any _ e2 v2 (KY.out _ E5).2 _ p HKS.out HPP.out HWL.out hpl).mono ?_; rintro en w6 ⟨rfl, y6⟩; have E6 : Ext wr w6 := Mod.trans E5 y6
            refine hK.out _ _ ((KY.out _ E6).1) ?_
            clear hK K
            (try simp only [Act.put, List.setIfInBounds_toArray, List.set_cons_zero, List.set_cons_succ])
            iterate 2 (refine plan_take (v := ?_) (by rfl) (fun wS hS => ?_) ?_; rotate_left; (focus ((try dsimp only at hS); go_simp; (try with_reducible rfl); done)); (try simp only [Act.put, List.setIfInBounds_toArray, List.set_cons_zero, List.set_cons_succ]))
            refine plan_nil ?_
            go_wp2_with fail
            go_ret
            exact ⟨ret_bool (by rw [HB.out]; exact HX.out.symm), HE.out.2.2.1.trans (HP.out.2.trans E6)⟩
  · have hlt' : ¬ (k : Int) < (e.fr.length : Int) := by omega
    have HT : Hid (evReads L.ev n = true) := Lib.hid (evReads_iff.2 fun i hi => HP.out.1 i (by rw [← HE.out.2.2.2.1] at hi; omega))
    clear hlg hb1 hea
    go_wp2_with fail
    go_ret
    exact ⟨ret_bool (by rw [HB.out]; exact HT.out.symm), HE.out.2.2.1.trans HP.out.2⟩
end Go.Proofs.YtbhocahmhmafmaaGreat
namespace Go.Proofs.YtbhocahmhmafmaaGreat
open Go.Ren Go.RowKit
set_option linter.unusedVariables false
structure RLogBox (w : World) (g : Nat) (ve vp : Value) : Prop where
 b : w.heap[g]? = some (.cells #[ve, vp] 57 (0, 0))
theorem RLogBox.ext {w w' : World} {g : Nat} {ve vp : Value} (h : RLogBox w g ve vp) (x : Ext w w') : RLogBox w' g ve vp := ⟨x.blk h.b⟩
theorem RLogBox.cells {w : World} {g : Nat} {ve vp : Value} (h : RLogBox w g ve vp) : w.cell? ⟨g, 0, none⟩ = some ve ∧ w.cell? ⟨g, 1, none⟩ = some vp := by simp [World.cell?, h.b]
def SmL (L : Lg) : Prop := ∀ i, i < L.ev.length → (evn L.ev i).rd.length ≤ 20000 ∧ (evn L.ev i).wr.length ≤ 20000 ∧ (evn L.ev i).fr.length ≤ 20000
set_option maxRecDepth 100000 in
set_option maxHeartbeats 1600000 in
theorem rmay_any (w : World) (ve vp : Value) (V : Nat → Vs) (L : Lg) (h : LogIn w ve vp V L) (hsm : SmL L) :
 Calls Tryz.prog 80 #[.agg #[ve, vp]] w (FPost (mayL L) w) := by
 have HSM := Lib.hid hsm
 clear hsm
 have q1 := Sl.cells_eq h.row
 have q2 := Sl.cells_eq h.prow
 have s1 := Sl.run_st (P := Tryz.prog) h.row
 have s2 := Sl.run_st (P := Tryz.prog) h.prow
 have l1 := h.row.run_len (P := Tryz.prog) IRe.und 3
 have l2 := h.prow.run_len (P := Tryz.prog) IP.und 3
 have HI := Lib.hid (h.row.run_idx (P := Tryz.prog) IRe.und IRe.size .i64)
 have HJ := Lib.hid (h.prow.run_idx (P := Tryz.prog) IP.und IP.size .i64)
 obtain ⟨w0, hw0⟩ : ∃ w0, w0 = w.alloc (.cells #[ve, vp] 57) := ⟨_, rfl⟩
 obtain ⟨g0, hg0⟩ : ∃ g, g = w.heap.size := ⟨_, rfl⟩
 have x0 : Ext w w0 := by rw [hw0]; exact (Mod.refl _ _).alloc _
 have b0 : RLogBox w0 g0 ve vp := ⟨by rw [hw0, hg0]; exact heap_alloc_new _ _⟩
 obtain ⟨d0, d1⟩ := b0.cells
 have HW := Lib.hid (And.intro hw0 (And.intro hg0 x0))
 have KE : Hid (∀ w', Ext w0 w' → LogIn w' ve vp V L ∧ RLogBox w' g0 ve vp) := Lib.hid fun w' x => ⟨h.ext (x0.trans x), b0.ext x⟩
 obtain ⟨B, hB⟩ : ∃ B, B = mayL L := ⟨_, rfl⟩
 rw [← hB]
 have HB := Lib.hid hB
 clear hB h hw0 hg0 x0 b0
 by_cases z : L.ev.length ≤ 1000 ∧ L.pr.length ≤ 1000
 case neg =>
  have hf : mayL L = false := by
   cases hm : mayL L with
   | false => rfl
   | true => exact absurd (mayL_iff.1 hm).1 z
  have HF := Lib.hid hf
  clear hf
  rcases (by omega : 1000 < L.ev.length ∨ (L.ev.length ≤ 1000 ∧ 1000 < L.pr.length)) with z1 | ⟨z1, z2⟩
  case' inl => have y1 : (1000 : Int) < (L.ev.length : Int) := by omega
  case' inr =>
   have y1 : ¬ (1000 : Int) < (L.ev.length : Int) := by omega
   have y2 : (1000 : Int) < (L.pr.length : Int) := by omega
  all_goals
   clear z
   go_enter Tryz.func80, Tryz.ntmps80
   go_upto_region 1 with fail
   rw [← HW.out.1, ← HW.out.2.1]
   go_wp2_with fail
   go_ret
   exact ⟨ret_bool (by rw [HB.out]; exact HF.out.symm), HW.out.2.2⟩
 obtain ⟨z1, z2⟩ := z
 have y1 : ¬ (1000 : Int) < (L.ev.length : Int) := by omega
 have y2 : ¬ (1000 : Int) < (L.pr.length : Int) := by omega
 go_enter Tryz.func80, Tryz.ntmps80
 go_upto_region 1 with fail
 rw [← HW.out.1, ← HW.out.2.1]
 go_wp2_with fail
 clear d0 d1 s1 s2
 go_loopw [3] (fun s20 wr => ∃ k : Nat, k ≤ L.ev.length ∧ s20 = .int .i64 (k : Int) ∧ (∀ j, j < k → evOk1 L.ev j = true) ∧ Ext w0 wr) (fun i _ => L.ev.length - (intOf i).toNat)
 case atStart => exact ⟨0, Nat.zero_le _, rfl, fun j hj => absurd hj (Nat.not_lt_zero _), Mod.refl _ _⟩
 case round =>
  obtain ⟨k, hk, rfl, hp, x⟩ := hrel
  have HP := Lib.hid (And.intro hp x)
  obtain ⟨hlg, hb0⟩ := KE.out wr x
  obtain ⟨d0, d1⟩ := hb0.cells
  clear hp x hb0
  by_cases hlt : k < L.ev.length
  · have hlt' : (k : Int) < (L.ev.length : Int) := by omega
    have i0 := HI.out k hlt
    have hev := hlg.ev k hlt
    obtain ⟨c0, c1, c2, c3, c4, c5, c6, c7, c8, c9⟩ := hlg.cells hlt
    obtain ⟨e, he⟩ : ∃ e, e = evn L.ev k := ⟨_, rfl⟩
    obtain ⟨v, hv⟩ : ∃ v, v = V k := ⟨_, rfl⟩
    obtain ⟨A, hA⟩ : ∃ A, A = at_ ve (k * 10) := ⟨_, rfl⟩
    rw [← hA] at i0 c0 c1 c2 c3 c4 c5 c6 c7 c8 c9
    rw [← he] at c0 c1 c2 c3 c4 c5 c6 hev
    rw [← hv] at c7 c8 c9 hev
    obtain ⟨k1, k2, k3, t1, t2, t3⟩ := ev_facts hev
    have ho := evOk1_of (L := L.ev) (n := k) he
    have HO := Lib.hid (And.intro ho he)
    have HV := Lib.hid hev
    have hk1 := HSM.out k hlt
    rw [← he] at hk1
    have HK1 := Lib.hid hk1
    have KX := Lib.hid (fun w' (X : Ext wr w') => KE.out w' (HP.out.2.trans X))
    clear hlg hev he hv hA ho hk1
    go_wp2_with fail
    refine (shape_any _ e v HV.out HK1.out).mono ?_
    rintro r w2 ⟨rfl, x2⟩
    clear d0 d1 c0 c1 c2 c3 c4 c5 c6 c7 c8 c9 i0
    obtain ⟨d0, d1⟩ := (KX.out w2 x2).2.cells
    by_cases hf : evShape e = true
    case neg =>
     have hf' : evShape e = false := by simpa using hf
     have HF := Lib.hid (mayL_false1 hlt (HO.out.1 false (by rw [show (decide (0 ≤ e.ag ∧ e.ag < 64) && evFields e) = evShape e from rfl, hf', Bool.false_and])))
     rw [hf']
     clear hf hf'
     go_wp2_with fail
     go_ret
     exact ⟨ret_bool (by rw [HB.out]; exact HF.out.symm), HW.out.2.2.trans (HP.out.2.trans x2)⟩
    case pos =>
     rw [hf]
     have HFF := Lib.hid hf
     clear hf
     go_wp2_with fail
     refine (rvread_any _ ve vp V L (KX.out w2 x2).1 k hlt (fun i hi => ?_) z1).mono ?_
     · by_cases e0 : i = k
       · subst e0; rw [← HO.out.2]; have := HFF.out; unfold evShape at this; simp only [Bool.and_eq_true] at this; exact this.2
       · exact evOk1_fields (HP.out.1 i (by omega))
     rintro r w3 ⟨rfl, x3⟩
     have x3' := x2.trans x3
     by_cases hr : evReads L.ev k = true
     case neg =>
      have hr' : evReads L.ev k = false := by simpa using hr
      have HF := Lib.hid (mayL_false1 hlt (HO.out.1 false (by rw [hr', Bool.and_false])))
      rw [hr']
      clear hr hr'
      go_wp2_with fail
      go_ret
      exact ⟨ret_bool (by rw [HB.out]; exact HF.out.symm), HW.out.2.2.trans (HP.out.2.trans x3')⟩
     case pos =>
      have HT := Lib.hid (HO.out.1 true (by rw [show (decide (0 ≤ e.ag ∧ e.ag < 64) && evFields e) = evShape e from rfl, hr, HFF.out]; rfl))
      rw [hr]
      clear hr
      go_wp2_with fail
      go_roundw
      case rel => exact ⟨k + 1, by omega, by go_num, upto_succ HP.out.1 HT.out, HP.out.2.trans x3'⟩
      case measure => simp [intOf]; omega
  · have hlt' : ¬ (k : Int) < (L.ev.length : Int) := by omega
    obtain rfl : k = L.ev.length := by omega
    clear hlg
    go_wp2_with fail
    obtain ⟨w1, hw1⟩ : ∃ w1, w1 = wr := ⟨_, rfl⟩
    rw [← hw1] at HP
    rw [← hw1]
    clear hw1 d0 d1
    go_loopw [4] (fun s48 wr => ∃ k : Nat, k ≤ L.pr.length ∧ s48 = .int .i64 (k : Int) ∧ (∀ j, j < k → prOk L.ev.length (prn L.pr j) = true) ∧ Ext w1 wr) (fun i _ => L.pr.length - (intOf i).toNat)
    case atStart => exact ⟨0, Nat.zero_le _, rfl, fun j hj => absurd hj (Nat.not_lt_zero _), Mod.refl _ _⟩
    case round =>
     obtain ⟨i, hi, rfl, hp, x⟩ := hrel
     have HP2 := Lib.hid (And.intro hp x)
     have X0 : Ext w0 wr := HP.out.2.trans x
     obtain ⟨hlg, hb0⟩ := KE.out wr X0
     obtain ⟨d0, d1⟩ := hb0.cells
     clear hp x hb0
     by_cases hil : i < L.pr.length
     · have hil' : (i : Int) < (L.pr.length : Int) := by omega
       have i0 := HJ.out i hil
       obtain ⟨c0, c1⟩ := hlg.pcells hil
       have hpi := hlg.pok i hil
       have hpo : prOk L.ev.length (prn L.pr i) = decide (0 ≤ (prn L.pr i).1 ∧ (prn L.pr i).1 < (prn L.pr i).2 ∧ (prn L.pr i).2 < (L.ev.length : Int)) := rfl
       have hpf := mayL_false2 (L := L) hil
       obtain ⟨p1, hp1⟩ : ∃ p, p = (prn L.pr i).1 := ⟨_, rfl⟩
       obtain ⟨p2, hp2⟩ : ∃ p, p = (prn L.pr i).2 := ⟨_, rfl⟩
       rw [← hp1] at c0 hpo
       rw [← hp2] at c1 hpo
       obtain ⟨A, hA⟩ : ∃ A, A = at_ vp (i * 2) := ⟨_, rfl⟩
       rw [← hA] at i0 c0 c1
       have e0 : (wr.alloc (.cells #[.int .i64 p1, .int .i64 p2] 112)).cell? ⟨g0, 0, none⟩ = some ve := Ext.cell ((Mod.refl _ _).alloc _) d0
       have HX := Lib.hid (And.intro hpo (And.intro hpf X0))
       clear hlg hpi hpo hpf hp1 hp2 hA X0
       rcases (by omega : p1 < 0 ∨ (0 ≤ p1 ∧ (L.ev.length : Int) ≤ p2) ∨ (0 ≤ p1 ∧ p2 < (L.ev.length : Int) ∧ p2 ≤ p1) ∨ (0 ≤ p1 ∧ p2 < (L.ev.length : Int) ∧ p1 < p2)) with g | ⟨g1, g2⟩ | ⟨g1, g2, g3⟩ | ⟨g1, g2, g3⟩
       case inr.inr.inr =>
        have HT : Hid (prOk L.ev.length (prn L.pr i) = true) := Lib.hid (by rw [HX.out.1]; simp; omega)
        go_wp2_with fail
        go_roundw
        case rel => exact ⟨i + 1, by omega, by go_num, upto_succ HP2.out.1 HT.out, HP2.out.2.alloc _⟩
        case measure => simp [intOf]; omega
       all_goals
        have HF := Lib.hid (HX.out.2.1 (by rw [HX.out.1]; simp; omega))
        go_wp2_with fail
        go_ret
        exact ⟨ret_bool (by rw [HB.out]; exact HF.out.symm), (HW.out.2.2.trans HX.out.2.2).alloc _⟩
     · have hil' : ¬ (i : Int) < (L.pr.length : Int) := by omega
       obtain rfl : i = L.pr.length := by omega
       clear hlg
       have HT : Hid (mayL L = true) := Lib.hid (mayL_iff.2 ⟨⟨z1, z2⟩, HP.out.1, HP2.out.1⟩)
       have X1 := Lib.hid X0
       clear X0
       go_wp2_with fail
       go_ret
       exact ⟨ret_bool (by rw [HB.out]; exact HT.out.symm), HW.out.2.2.trans X1.out⟩
end Go.Proofs.YtbhocahmhmafmaaGreat
