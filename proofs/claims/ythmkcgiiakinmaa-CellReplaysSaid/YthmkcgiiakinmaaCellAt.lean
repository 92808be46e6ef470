/-
  The contracts of cell's kind, cut, New, Do at the examples, Word; of renref18.Good, renlaw21.first. No condition.
-/
import Derived.Test.YthmkcgiiakinmaaElemBytes
import Derived.Test.YthmkcgiiakinmaaCellLaw
import Derived.Test.YthmkcgiiakinmaaPlanT
import Derived.BigRegion
import Derived.Deep.DeepCutAuto
import Derived.Deep.RegionLaw
namespace Go.Proofs.Ythmkcgiiakinmaa
open Go.Ren Go.RowKit
set_option linter.unusedVariables false
theorem copied_bytes {w : World} {v : Value} {l : List UInt8} (h : Own w 5 1 v (l.map bv).length (l.map bv)) : BytesAt w v l := by
  have h1 := h.sl
  rw [List.length_map] at h1
  exact h1
set_option maxRecDepth 100000 in
theorem cellkind_any (w : World) (s : Int) : Calls Try.prog 71 #[.int .i64 s] w fun e w' => e = .returned (.int .i64 (kindC s)) ∧ w' = w := by
  by_cases hk : s = 1 ∨ s = 2 ∨ s = 4 ∨ s = 8
  · rcases hk with rfl | rfl | rfl | rfl
    all_goals
      go_enter Try.func71, Try.ntmps71
      go_wp2
      go_ret
      exact ⟨rfl, rfl⟩
  · have h0 : Hid (kindC s = 0) := Lib.hid (by unfold kindC; rw [if_neg (by omega), if_neg (by omega), if_neg (by omega), if_neg (by omega)])
    have a1 : (s == 1) = false := by simp; omega
    have a2 : (s == 2) = false := by simp; omega
    have a4 : (s == 4) = false := by simp; omega
    have a8 : (s == 8) = false := by simp; omega
    clear hk
    go_enter Try.func71, Try.ntmps71
    go_wp2
    go_ret
    rw [h0.out]
    exact ⟨rfl, rfl⟩
set_option maxRecDepth 100000 in
theorem good_any (w : World) (s : Int) : Calls Try.prog 73 #[.int .i64 s] w fun e w' => e = .returned (.bool (goodB s)) ∧ w' = w := by
  by_cases hk : s = 1 ∨ s = 2 ∨ s = 4 ∨ s = 8
  · rcases hk with rfl | rfl | rfl | rfl
    all_goals
      go_enter Try.func73, Try.ntmps73
      go_wp2
      go_ret
      exact ⟨rfl, rfl⟩
  · have h0 : Hid (goodB s = false) := Lib.hid (by unfold goodB; simp; omega)
    have a1 : (s == 1) = false := by simp; omega
    have a2 : (s == 2) = false := by simp; omega
    have a4 : (s == 4) = false := by simp; omega
    have a8 : (s == 8) = false := by simp; omega
    clear hk
    go_enter Try.func73, Try.ntmps73
    go_wp2
    go_ret
    rw [h0.out]
    exact ⟨rfl, rfl⟩
structure CellBox (w : World) (g : Nat) (k : Int) (m : Nat) : Prop where
  b : w.heap[g]? = some (.cells #[.int .i64 k, .int .u64 (m : Int)] 111 (0, 0))
theorem CellBox.ext {w w' : World} {g : Nat} {k : Int} {m : Nat} (h : CellBox w g k m) (x : Ext w w') : CellBox w' g k m := ⟨x.blk h.b⟩
theorem CellBox.cells {w : World} {g : Nat} {k : Int} {m : Nat} (h : CellBox w g k m) : w.cell? ⟨g, 0, none⟩ = some (.int .i64 k) ∧ w.cell? ⟨g, 1, none⟩ = some (.int .u64 (m : Int)) := by simp [World.cell?, h.b]
theorem CellBox.put {w : World} {g : Nat} {k : Int} {m : Nat} (h : CellBox w g k m) (n : Nat) : CellBox (w.setCell ⟨g, 1, none⟩ (.int .u64 (n : Int))) g k n := ⟨by simp [World.setCell, Array.getElem?_modify, h.b]⟩
theorem CellBox.frozen {w : World} {g : Nat} {k : Int} {m : Nat} (h : CellBox w g k m) : w.frozen? ⟨g, 1, none⟩ = false := by simp [World.frozen?, h.b]
structure OpBox (w : World) (g : Nat) (k o : Int) (y z : Nat) : Prop where
  b : w.heap[g]? = some (.cells #[.int .i64 k, .int .i64 o, .int .u64 (y : Int), .int .u64 (z : Int)] 89 (0, 0))
theorem OpBox.ext {w w' : World} {g : Nat} {k o : Int} {y z : Nat} (h : OpBox w g k o y z) (x : Ext w w') : OpBox w' g k o y z := ⟨x.blk h.b⟩
theorem OpBox.cells {w : World} {g : Nat} {k o : Int} {y z : Nat} (h : OpBox w g k o y z) : w.cell? ⟨g, 0, none⟩ = some (.int .i64 k) ∧ w.cell? ⟨g, 1, none⟩ = some (.int .i64 o) ∧ w.cell? ⟨g, 2, none⟩ = some (.int .u64 (y : Int)) := by simp [World.cell?, h.b]
set_option maxRecDepth 100000 in
theorem ccut_any (w : World) (g : Nat) (k : Int) (m y : Nat) (h : CellBox w g k m) (hy : y < 18446744073709551616) : Calls Try.prog 97 #[.pointer (some ⟨g, 0, none⟩), .int .u64 (y : Int)] w fun e w' => e = .returned (.int .u64 ((wordK k (bytesN (szK k) y)).1 : Int)) ∧ Ext w w' := by
  have KF : Hid (∀ w', Ext w w' → w'.cell? ⟨g, 0, none⟩ = some (.int .i64 k)) := Lib.hid fun w' x => (h.ext x).cells.1
  clear h
  go_enter Try.func97, Try.ntmps97
  go_upto_region 1 with fail
  refine wp_region_plan [(0, true), (1, true), (2, true), (3, true), (4, true), (5, true), (6, true), (7, true), (8, true), (9, false), (10, false), (11, true), (12, true), (13, true), (14, true)] (fun w' => w'.cell? ⟨g, 0, none⟩ = some (.int .i64 k)) (by kernel_rfl) (by kernel_rfl) (by kernel_rfl) (fun _ d _ _ _ h => by cases d <;> exact h) (KF.out _ (Mod.drew (Mod.refl _ _))) ?_
  simp only [planL, getO]
  iterate 9 (refine plan_take (v := ?_) (by rfl) (fun wS hS => ?_) ?_; rotate_left; (focus ((try dsimp only at hS); go_simp; (try with_reducible rfl); done)); (try simp only [Act.put, List.setIfInBounds_toArray, List.set_cons_zero, List.set_cons_succ]))
  refine plan_call (fun K hK => ?_)
  go_simp
  go_at_call 106; refine (ebytes_any _ k y hy).mono ?_; rintro en v1 ⟨vb, rfl, ob, u1, -⟩; have U1 : Ext w v1 := Mod.trans (Mod.drew (Mod.refl _ _)) u1; have HB := Lib.hid (copied_bytes ob)
  refine hK.out _ _ (KF.out _ U1) ?_
  clear hK K
  (try simp only [Act.put, List.setIfInBounds_toArray, List.set_cons_zero, List.set_cons_succ])
  refine plan_call (fun K hK => ?_)
  go_simp
  go_at_call 105; refine (eword_any _ k _ _ HB.out).mono ?_; rintro en v2 ⟨rfl, rfl⟩
  refine hK.out _ _ (KF.out _ U1) ?_
  clear hK K
  (try simp only [Act.put, List.setIfInBounds_toArray, List.set_cons_zero, List.set_cons_succ])
  iterate 4 (refine plan_take (v := ?_) (by rfl) (fun wS hS => ?_) ?_; rotate_left; (focus ((try dsimp only at hS); go_simp; (try with_reducible rfl); done)); (try simp only [Act.put, List.setIfInBounds_toArray, List.set_cons_zero, List.set_cons_succ]))
  refine plan_nil ?_
  go_wp2_with fail
  go_ret
  exact ⟨rfl, U1⟩
theorem cut_small {y : Nat} (h : y < 256) : (wordK 2 (bytesN (szK 2) y)).1 = y := by
  show (wordK 2 (bytesN 1 y)).1 = y
  unfold wordK
  rw [if_neg (by rw [bytesN_len]; decide)]
  simp [bytesN, wordP, List.range, List.range.loop]
  omega
set_option maxRecDepth 100000 in
set_option maxHeartbeats 800000 in
theorem do3_any (w : World) (g m y : Nat) (h : CellBox w g 2 m) (hm : m < 256) (hy : y < 256) : Calls Try.prog 69 #[.pointer (some ⟨g, 0, none⟩), .agg #[.int .i64 3, .int .i64 1, .int .u64 (y : Int), .int .u64 0]] w fun e w' => e = .returned (.tuple #[.int .u64 (m : Int), .int .i64 0]) ∧ CellBox w' g 2 ((m + y) % 256) ∧ Mod (fun q => q = g) w w' := by
  obtain ⟨w0, hw0⟩ : ∃ w0, w0 = w.alloc (.cells #[.int .i64 3, .int .i64 1, .int .u64 (y : Int), .int .u64 0] 89) := ⟨_, rfl⟩
  obtain ⟨g0, hg0⟩ : ∃ g, g = w.heap.size := ⟨_, rfl⟩
  have x0 : Ext w w0 := by rw [hw0]; exact (Mod.refl _ _).alloc _
  have b0 : OpBox w0 g0 3 1 y 0 := ⟨by rw [hw0, hg0]; exact heap_alloc_new _ _⟩
  have HW := Lib.hid (And.intro hw0 (And.intro hg0 x0))
  have HB := Lib.hid (h.ext x0)
  have KF : Hid (∀ w', Ext w0 w' → w'.cell? ⟨g, 0, none⟩ = some (.int .i64 2) ∧ w'.cell? ⟨g, 1, none⟩ = some (.int .u64 (m : Int)) ∧ w'.cell? ⟨g0, 0, none⟩ = some (.int .i64 3) ∧ w'.cell? ⟨g0, 1, none⟩ = some (.int .i64 1) ∧ w'.cell? ⟨g0, 2, none⟩ = some (.int .u64 (y : Int))) := Lib.hid fun w' x => ⟨((h.ext x0).ext x).cells.1, ((h.ext x0).ext x).cells.2, (b0.ext x).cells.1, (b0.ext x).cells.2.1, (b0.ext x).cells.2.2⟩
  have HY := Lib.hid (cut_small hy)
  have HCH : Hid (changeK 2 1 m y = ((m + y) % 256, true)) := Lib.hid (by show (((m + y) % 18446744073709551616) % 256, true) = _; rw [show ((m + y) % 18446744073709551616) % 256 = (m + y) % 256 by omega])
  clear hw0 hg0 x0 b0 h
  go_enter Try.func69, Try.ntmps69
  go_upto_region 1 with fail
  rw [← HW.out.1, ← HW.out.2.1]
  refine wp_region_plan [(0, true), (1, true), (2, true), (3, true), (4, true), (5, true), (6, true), (7, false), (8, true), (9, true)] (fun w' => w'.cell? ⟨g, 0, none⟩ = some (.int .i64 2) ∧ w'.cell? ⟨g, 1, none⟩ = some (.int .u64 (m : Int)) ∧ w'.cell? ⟨g0, 0, none⟩ = some (.int .i64 3) ∧ w'.cell? ⟨g0, 1, none⟩ = some (.int .i64 1) ∧ w'.cell? ⟨g0, 2, none⟩ = some (.int .u64 (y : Int))) (by kernel_rfl) (by kernel_rfl) (by kernel_rfl) (fun _ d _ _ _ h => by cases d <;> exact h) (KF.out _ (Mod.drew (Mod.refl _ _))) ?_
  simp only [planL, getO]
  iterate 7 (refine plan_take (v := ?_) (by rfl) (fun wS hS => ?_) ?_; rotate_left; (focus ((try dsimp only at hS); go_simp; (try with_reducible rfl); done)); (try simp only [Act.put, List.setIfInBounds_toArray, List.set_cons_zero, List.set_cons_succ]))
  refine plan_call (fun K hK => ?_)
  go_simp
  go_at_call 97; refine (ccut_any _ g 2 m y ((HB.out.ext (Mod.drew (Mod.refl _ _)))) (by omega)).mono ?_; rintro en v1 ⟨rfl, u1⟩; have U1 : Ext w0 v1 := Mod.trans (Mod.drew (Mod.refl _ _)) u1; rw [HY.out]
  refine hK.out _ _ (KF.out _ U1) ?_
  clear hK K
  (try simp only [Act.put, List.setIfInBounds_toArray, List.set_cons_zero, List.set_cons_succ])
  iterate 2 (refine plan_take (v := ?_) (by rfl) (fun wS hS => ?_) ?_; rotate_left; (focus ((try dsimp only at hS); go_simp; (try with_reducible rfl); done)); (try simp only [Act.put, List.setIfInBounds_toArray, List.set_cons_zero, List.set_cons_succ]))
  refine plan_nil ?_
  obtain ⟨c0, c1, c2, c3, c4⟩ := KF.out _ U1
  go_upto_region 9 with fail
  clear c0 c1 c2 c3 c4
  refine wp_region_plan [(0, true), (1, true), (2, true), (3, true), (4, true), (5, true), (6, true), (7, true), (8, false), (9, true), (10, true), (11, true), (12, true), (13, true)] (fun w' => w'.cell? ⟨g, 0, none⟩ = some (.int .i64 2) ∧ w'.cell? ⟨g, 1, none⟩ = some (.int .u64 (m : Int)) ∧ w'.cell? ⟨g0, 0, none⟩ = some (.int .i64 3) ∧ w'.cell? ⟨g0, 1, none⟩ = some (.int .i64 1) ∧ w'.cell? ⟨g0, 2, none⟩ = some (.int .u64 (y : Int))) (by kernel_rfl) (by kernel_rfl) (by kernel_rfl) (fun _ d _ _ _ h => by cases d <;> exact h) (KF.out _ (Mod.drew U1)) ?_
  simp only [planL, getO]
  iterate 8 (refine plan_take (v := ?_) (by rfl) (fun wS hS => ?_) ?_; rotate_left; (focus ((try dsimp only at hS); go_simp; (try with_reducible rfl); done)); (try simp only [Act.put, List.setIfInBounds_toArray, List.set_cons_zero, List.set_cons_succ]))
  refine plan_call (fun K hK => ?_)
  go_simp
  go_at_call 98; refine (change_any _ 2 1 m y (by omega) (by omega)).mono ?_; rintro en v2 ⟨rfl, rfl⟩; rw [HCH.out]
  refine hK.out _ _ (KF.out _ (Mod.drew U1)) ?_
  clear hK K
  iterate 5 (refine plan_take (v := ?_) (by rfl) (fun wS hS => ?_) ?_; rotate_left; (focus ((try dsimp only at hS); go_simp; (try with_reducible rfl); done)); (try simp only [Act.put, List.setIfInBounds_toArray, List.set_cons_zero, List.set_cons_succ]))
  refine plan_nil ?_
  obtain ⟨c0, c1, c2, c3, c4⟩ := KF.out _ (Mod.drew U1)
  have f1 := (HB.out.ext (Mod.drew U1)).frozen
  go_wp2_with fail
  go_ret2
  exact ⟨rfl, (HB.out.ext (Mod.drew U1)).put _, Mod.setCell (F := fun q => q = g) (Ext.mod (HW.out.2.2.trans (Mod.drew U1)) _) (.inl rfl) _⟩
set_option maxRecDepth 100000 in
set_option maxHeartbeats 800000 in
theorem do9_any (w : World) (g m : Nat) (h : CellBox w g 2 m) : Calls Try.prog 69 #[.pointer (some ⟨g, 0, none⟩), .agg #[.int .i64 9, .int .i64 0, .int .u64 0, .int .u64 0]] w fun e w' => e = .returned (.tuple #[.int .u64 0, .int .i64 8]) ∧ Ext w w' := by
  obtain ⟨w0, hw0⟩ : ∃ w0, w0 = w.alloc (.cells #[.int .i64 9, .int .i64 0, .int .u64 0, .int .u64 0] 89) := ⟨_, rfl⟩
  obtain ⟨g0, hg0⟩ : ∃ g, g = w.heap.size := ⟨_, rfl⟩
  have x0 : Ext w w0 := by rw [hw0]; exact (Mod.refl _ _).alloc _
  have b0 : OpBox w0 g0 9 0 0 0 := ⟨by rw [hw0, hg0]; exact heap_alloc_new _ _⟩
  have HW := Lib.hid (And.intro hw0 (And.intro hg0 x0))
  have HB := Lib.hid (h.ext x0)
  have KF : Hid (∀ w', Ext w0 w' → w'.cell? ⟨g, 0, none⟩ = some (.int .i64 2) ∧ w'.cell? ⟨g, 1, none⟩ = some (.int .u64 (m : Int)) ∧ w'.cell? ⟨g0, 0, none⟩ = some (.int .i64 9) ∧ w'.cell? ⟨g0, 1, none⟩ = some (.int .i64 0) ∧ w'.cell? ⟨g0, 2, none⟩ = some (.int .u64 0)) := Lib.hid fun w' x => ⟨((h.ext x0).ext x).cells.1, ((h.ext x0).ext x).cells.2, (b0.ext x).cells.1, (b0.ext x).cells.2.1, (b0.ext x).cells.2.2⟩
  have HY := Lib.hid (cut_small (y := 0) (by omega))
  clear hw0 hg0 x0 b0 h
  go_enter Try.func69, Try.ntmps69
  go_upto_region 1 with fail
  rw [← HW.out.1, ← HW.out.2.1]
  refine wp_region_plan [(0, true), (1, true), (2, true), (3, true), (4, true), (5, true), (6, true), (7, false), (8, true), (9, true)] (fun w' => w'.cell? ⟨g, 0, none⟩ = some (.int .i64 2) ∧ w'.cell? ⟨g, 1, none⟩ = some (.int .u64 (m : Int)) ∧ w'.cell? ⟨g0, 0, none⟩ = some (.int .i64 9) ∧ w'.cell? ⟨g0, 1, none⟩ = some (.int .i64 0) ∧ w'.cell? ⟨g0, 2, none⟩ = some (.int .u64 0)) (by kernel_rfl) (by kernel_rfl) (by kernel_rfl) (fun _ d _ _ _ h => by cases d <;> exact h) (KF.out _ (Mod.drew (Mod.refl _ _))) ?_
  simp only [planL, getO]
  iterate 7 (refine plan_take (v := ?_) (by rfl) (fun wS hS => ?_) ?_; rotate_left; (focus ((try dsimp only at hS); go_simp; (try with_reducible rfl); done)); (try simp only [Act.put, List.setIfInBounds_toArray, List.set_cons_zero, List.set_cons_succ]))
  refine plan_call (fun K hK => ?_)
  go_simp
  go_at_call 97; refine (ccut_any _ g 2 m 0 ((HB.out.ext (Mod.drew (Mod.refl _ _)))) (by omega)).mono ?_; rintro en v1 ⟨rfl, u1⟩; have U1 : Ext w0 v1 := Mod.trans (Mod.drew (Mod.refl _ _)) u1; rw [HY.out]
  refine hK.out _ _ (KF.out _ U1) ?_
  clear hK K
  (try simp only [Act.put, List.setIfInBounds_toArray, List.set_cons_zero, List.set_cons_succ])
  iterate 2 (refine plan_take (v := ?_) (by rfl) (fun wS hS => ?_) ?_; rotate_left; (focus ((try dsimp only at hS); go_simp; (try with_reducible rfl); done)); (try simp only [Act.put, List.setIfInBounds_toArray, List.set_cons_zero, List.set_cons_succ]))
  refine plan_nil ?_
  obtain ⟨c0, c1, c2, c3, c4⟩ := KF.out _ U1
  go_wp2_with fail
  go_ret2
  exact ⟨rfl, HW.out.2.2.trans U1⟩
set_option maxRecDepth 100000 in
theorem cword_any (w : World) (g m : Nat) (h : CellBox w g 2 m) : Calls Try.prog 70 #[.pointer (some ⟨g, 0, none⟩)] w fun e w' => e = .returned (.int .u64 (m : Int)) ∧ w' = w := by
  obtain ⟨c0, c1⟩ := h.cells
  clear h
  go_enter Try.func70, Try.ntmps70
  go_wp2_with fail
  go_ret
  exact ⟨rfl, rfl⟩
set_option maxRecDepth 100000 in
theorem cnew_one (w : World) : Calls Try.prog 68 #[.int .i64 1] w fun e w' => e = .returned (.tuple #[.pointer (some ⟨w.heap.size, 0, none⟩), .int .i64 0]) ∧ CellBox w' w.heap.size 2 0 ∧ Ext w w' := by
  go_enter Try.func68, Try.ntmps68
  go_wp2_with fail
  refine (cellkind_any _ 1).mono ?_
  rintro e w1 ⟨rfl, rfl⟩
  rw [show kindC 1 = 2 by rfl]
  go_wp2_with fail
  refine (cellkind_any _ 1).mono ?_
  rintro e w1 ⟨rfl, rfl⟩
  rw [show kindC 1 = 2 by rfl]
  go_wp2_with fail
  go_ret2
  exact ⟨rfl, ⟨heap_alloc_new _ _⟩, (Mod.refl _ _).alloc _⟩
set_option maxRecDepth 100000 in
set_option maxHeartbeats 800000 in
theorem first21_any (w : World) : Calls Try.prog 32 #[] w fun e w' => e = .returned (.bool true) ∧ Ext w w' := by
  obtain ⟨g, hg⟩ : ∃ g, g = w.heap.size := ⟨_, rfl⟩
  have HG := Lib.hid hg
  clear hg
  go_enter Try.func32, Try.ntmps32
  go_wp2_with fail
  refine (cnew_one _).mono ?_
  rintro e w1 ⟨rfl, b1, x1⟩
  rw [← HG.out] at b1 ⊢
  go_wp2_with fail
  refine (do3_any _ g 0 250 b1 (by decide) (by decide)).mono ?_
  rintro e w2 ⟨rfl, b2, m2⟩
  go_wp2_with fail
  refine (do3_any _ g 250 10 b2 (by decide) (by decide)).mono ?_
  rintro e w3 ⟨rfl, b3, m3⟩
  go_wp2_with fail
  refine (do9_any _ g 4 b3).mono ?_
  rintro e w4 ⟨rfl, x4⟩
  go_wp2_with fail
  refine (cword_any _ g 4 (b3.ext x4)).mono ?_
  rintro e w5 ⟨rfl, rfl⟩
  go_wp2_with fail
  go_ret
  exact ⟨rfl, (x1.trans' (m2.trans m3) (fun i hi => .inr (by rw [hi, HG.out]; exact Nat.le_refl _))).trans x4⟩
end Go.Proofs.Ythmkcgiiakinmaa
