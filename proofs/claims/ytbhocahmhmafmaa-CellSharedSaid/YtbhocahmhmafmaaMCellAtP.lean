/-
  The contracts of cell's kind, cut, New, Do at the examples, Word; of renref18.Good, renlaw21.first. No condition. The contracts of cell.Clean. No condition. The contracts of cell.Replay. No condition.
-/
import Derived.Test.YtbhocahmhmafmaaMElemBytes
import Derived.Test.YtbhocahmhmafmaaMBlkLaw
import Derived.Test.YtbhocahmhmafmaaMPlan
import Derived.BigRegion
import Derived.Deep.DeepCutAuto
import Derived.Deep.RegionLaw
import Derived.Test.YtbhocahmhmafmaaMEvMay
import Derived.Test.YtbhocahmhmafmaaMEvHeadsLaw
namespace Go.Proofs.Ytbhocahmhmafmaa
open Go.Ren Go.RowKit
set_option linter.unusedVariables false
theorem copied_bytes {w : World} {v : Value} {l : List UInt8} (h : Own w 5 1 v (l.map bv).length (l.map bv)) : BytesAt w v l := by
  have h1 := h.sl
  rw [List.length_map] at h1
  exact h1
set_option maxRecDepth 100000 in
theorem cellkind_any (w : World) (s : Int) : Calls Try.prog 64 #[.int .i64 s] w fun e w' => e = .returned (.int .i64 (kindC s)) ∧ w' = w := by
  by_cases hk : s = 1 ∨ s = 2 ∨ s = 4 ∨ s = 8
  · rcases hk with rfl | rfl | rfl | rfl
    all_goals
      go_enter Try.func64, Try.ntmps64
      go_wp2
      go_ret
      exact ⟨rfl, rfl⟩
  · have h0 : Hid (kindC s = 0) := Lib.hid (by unfold kindC; rw [if_neg (by omega), if_neg (by omega), if_neg (by omega), if_neg (by omega)])
    have a1 : (s == 1) = false := by simp; omega
    have a2 : (s == 2) = false := by simp; omega
    have a4 : (s == 4) = false := by simp; omega
    have a8 : (s == 8) = false := by simp; omega
    clear hk
    go_enter Try.func64, Try.ntmps64
    go_wp2
    go_ret
    rw [h0.out]
    exact ⟨rfl, rfl⟩
structure CellBox (w : World) (g : Nat) (k : Int) (m : Nat) : Prop where
  b : w.heap[g]? = some (.cells #[.int .i64 k, .int .u64 (m : Int)] 124 (0, 0))
theorem CellBox.ext {w w' : World} {g : Nat} {k : Int} {m : Nat} (h : CellBox w g k m) (x : Ext w w') : CellBox w' g k m := ⟨x.blk h.b⟩
theorem CellBox.cells {w : World} {g : Nat} {k : Int} {m : Nat} (h : CellBox w g k m) : w.cell? ⟨g, 0, none⟩ = some (.int .i64 k) ∧ w.cell? ⟨g, 1, none⟩ = some (.int .u64 (m : Int)) := by simp [World.cell?, h.b]
theorem CellBox.put {w : World} {g : Nat} {k : Int} {m : Nat} (h : CellBox w g k m) (n : Nat) : CellBox (w.setCell ⟨g, 1, none⟩ (.int .u64 (n : Int))) g k n := ⟨by simp [World.setCell, Array.getElem?_modify, h.b]⟩
theorem CellBox.frozen {w : World} {g : Nat} {k : Int} {m : Nat} (h : CellBox w g k m) : w.frozen? ⟨g, 1, none⟩ = false := by simp [World.frozen?, h.b]
structure OpBox (w : World) (g : Nat) (k o : Int) (y z : Nat) : Prop where
  b : w.heap[g]? = some (.cells #[.int .i64 k, .int .i64 o, .int .u64 (y : Int), .int .u64 (z : Int)] 99 (0, 0))
theorem OpBox.ext {w w' : World} {g : Nat} {k o : Int} {y z : Nat} (h : OpBox w g k o y z) (x : Ext w w') : OpBox w' g k o y z := ⟨x.blk h.b⟩
theorem OpBox.cells {w : World} {g : Nat} {k o : Int} {y z : Nat} (h : OpBox w g k o y z) : w.cell? ⟨g, 0, none⟩ = some (.int .i64 k) ∧ w.cell? ⟨g, 1, none⟩ = some (.int .i64 o) ∧ w.cell? ⟨g, 2, none⟩ = some (.int .u64 (y : Int)) := by simp [World.cell?, h.b]
set_option maxRecDepth 100000 in
theorem ccut_any (w : World) (g : Nat) (k : Int) (m y : Nat) (h : CellBox w g k m) (hy : y < 18446744073709551616) : Calls Try.prog 81 #[.pointer (some ⟨g, 0, none⟩), .int .u64 (y : Int)] w fun e w' => e = .returned (.int .u64 ((wordK k (bytesN (szK k) y)).1 : Int)) ∧ Ext w w' := by
  have KF : Hid (∀ w', Ext w w' → w'.cell? ⟨g, 0, none⟩ = some (.int .i64 k)) := Lib.hid fun w' x => (h.ext x).cells.1
  clear h
  go_enter Try.func81, Try.ntmps81
  go_upto_region 1 with fail
  refine wp_region_plan [(0, true), (1, true), (2, true), (3, true), (4, true), (5, true), (6, true), (7, true), (8, true), (9, false), (10, false), (11, true), (12, true), (13, true), (14, true)] (fun w' => w'.cell? ⟨g, 0, none⟩ = some (.int .i64 k)) (by kernel_rfl) (by kernel_rfl) (by kernel_rfl) (fun _ d _ _ _ h => by cases d <;> exact h) (KF.out _ (Mod.drew (Mod.refl _ _))) ?_
  simp only [planL, getO]
  iterate 9 (refine plan_take (v := ?_) (by rfl) (fun wS hS => ?_) ?_; rotate_left; (focus ((try dsimp only at hS); go_simp; (try with_reducible rfl); done)); (try simp only [Act.put, List.setIfInBounds_toArray, List.set_cons_zero, List.set_cons_succ]))
  refine plan_call (fun K hK => ?_)
  go_simp
  go_at_call 28; refine (ebytes_any _ k y hy).mono ?_; rintro en v1 ⟨vb, rfl, ob, u1, -⟩; have U1 : Ext w v1 := Mod.trans (Mod.drew (Mod.refl _ _)) u1; have HB := Lib.hid (copied_bytes ob)
  refine hK.out _ _ (KF.out _ U1) ?_
  clear hK K
  (try simp only [Act.put, List.setIfInBounds_toArray, List.set_cons_zero, List.set_cons_succ])
  refine plan_call (fun K hK => ?_)
  go_simp
  go_at_call 39; refine (eword_any _ k _ _ HB.out).mono ?_; rintro en v2 ⟨rfl, rfl⟩
  refine hK.out _ _ (KF.out _ U1) ?_
  clear hK K
  (try simp only [Act.put, List.setIfInBounds_toArray, List.set_cons_zero, List.set_cons_succ])
  iterate 4 (refine plan_take (v := ?_) (by rfl) (fun wS hS => ?_) ?_; rotate_left; (focus ((try dsimp only at hS); go_simp; (try with_reducible rfl); done)); (try simp only [Act.put, List.setIfInBounds_toArray, List.set_cons_zero, List.set_cons_succ]))
  refine plan_nil ?_
  go_wp2_with fail
  go_ret
  exact ⟨rfl, U1⟩
theorem cut_small {y : Nat} (h : y < 256) : (wordK 2 (bytesN (szK 2) y)).1 = y := by
  show (wordK 2 (bytesN 1 y)).1 = y
  unfold wordK
  rw [if_neg (by rw [bytesN_len]; decide)]
  simp [bytesN, wordP, List.range, List.range.loop]
  omega
set_option maxRecDepth 100000 in
set_option maxHeartbeats 800000 in
theorem do3_any (w : World) (g m y : Nat) (h : CellBox w g 2 m) (hm : m < 256) (hy : y < 256) : Calls Try.prog 57 #[.pointer (some ⟨g, 0, none⟩), .agg #[.int .i64 3, .int .i64 1, .int .u64 (y : Int), .int .u64 0]] w fun e w' => e = .returned (.tuple #[.int .u64 (m : Int), .int .i64 0]) ∧ CellBox w' g 2 ((m + y) % 256) ∧ Mod (fun q => q = g) w w' := by
  obtain ⟨w0, hw0⟩ : ∃ w0, w0 = w.alloc (.cells #[.int .i64 3, .int .i64 1, .int .u64 (y : Int), .int .u64 0] 99) := ⟨_, rfl⟩
  obtain ⟨g0, hg0⟩ : ∃ g, g = w.heap.size := ⟨_, rfl⟩
  have x0 : Ext w w0 := by rw [hw0]; exact (Mod.refl _ _).alloc _
  have b0 : OpBox w0 g0 3 1 y 0 := ⟨by rw [hw0, hg0]; exact heap_alloc_new _ _⟩
  have HW := Lib.hid (And.intro hw0 (And.intro hg0 x0))
  have HB := Lib.hid (h.ext x0)
  have KF : Hid (∀ w', Ext w0 w' → w'.cell? ⟨g, 0, none⟩ = some (.int .i64 2) ∧ w'.cell? ⟨g, 1, none⟩ = some (.int .u64 (m : Int)) ∧ w'.cell? ⟨g0, 0, none⟩ = some (.int .i64 3) ∧ w'.cell? ⟨g0, 1, none⟩ = some (.int .i64 1) ∧ w'.cell? ⟨g0, 2, none⟩ = some (.int .u64 (y : Int))) := Lib.hid fun w' x => ⟨((h.ext x0).ext x).cells.1, ((h.ext x0).ext x).cells.2, (b0.ext x).cells.1, (b0.ext x).cells.2.1, (b0.ext x).cells.2.2⟩
  have HY := Lib.hid (cut_small hy)
  have HCH : Hid (changeK 2 1 m y = ((m + y) % 256, true)) := Lib.hid (by show (((m + y) % 18446744073709551616) % 256, true) = _; rw [show ((m + y) % 18446744073709551616) % 256 = (m + y) % 256 by omega])
  clear hw0 hg0 x0 b0 h
  go_enter Try.func57, Try.ntmps57
  go_upto_region 1 with fail
  rw [← HW.out.1, ← HW.out.2.1]
  refine wp_region_plan [(0, true), (1, true), (2, true), (3, true), (4, true), (5, true), (6, true), (7, false), (8, true), (9, true)] (fun w' => w'.cell? ⟨g, 0, none⟩ = some (.int .i64 2) ∧ w'.cell? ⟨g, 1, none⟩ = some (.int .u64 (m : Int)) ∧ w'.cell? ⟨g0, 0, none⟩ = some (.int .i64 3) ∧ w'.cell? ⟨g0, 1, none⟩ = some (.int .i64 1) ∧ w'.cell? ⟨g0, 2, none⟩ = some (.int .u64 (y : Int))) (by kernel_rfl) (by kernel_rfl) (by kernel_rfl) (fun _ d _ _ _ h => by cases d <;> exact h) (KF.out _ (Mod.drew (Mod.refl _ _))) ?_
  simp only [planL, getO]
  iterate 7 (refine plan_take (v := ?_) (by rfl) (fun wS hS => ?_) ?_; rotate_left; (focus ((try dsimp only at hS); go_simp; (try with_reducible rfl); done)); (try simp only [Act.put, List.setIfInBounds_toArray, List.set_cons_zero, List.set_cons_succ]))
  refine plan_call (fun K hK => ?_)
  go_simp
  go_at_call 81; refine (ccut_any _ g 2 m y ((HB.out.ext (Mod.drew (Mod.refl _ _)))) (by omega)).mono ?_; rintro en v1 ⟨rfl, u1⟩; have U1 : Ext w0 v1 := Mod.trans (Mod.drew (Mod.refl _ _)) u1; rw [HY.out]
  refine hK.out _ _ (KF.out _ U1) ?_
  clear hK K
  (try simp only [Act.put, List.setIfInBounds_toArray, List.set_cons_zero, List.set_cons_succ])
  iterate 2 (refine plan_take (v := ?_) (by rfl) (fun wS hS => ?_) ?_; rotate_left; (focus ((try dsimp only at hS); go_simp; (try with_reducible rfl); done)); (try simp only [Act.put, List.setIfInBounds_toArray, List.set_cons_zero, List.set_cons_succ]))
  refine plan_nil ?_
  obtain ⟨c0, c1, c2, c3, c4⟩ := KF.out _ U1
  go_upto_region 9 with fail
  clear c0 c1 c2 c3 c4
  refine wp_region_plan [(0, true), (1, true), (2, true), (3, true), (4, true), (5, true), (6, true), (7, true), (8, false), (9, true), (10, true), (11, true), (12, true), (13, true)] (fun w' => w'.cell? ⟨g, 0, none⟩ = some (.int .i64 2) ∧ w'.cell? ⟨g, 1, none⟩ = some (.int .u64 (m : Int)) ∧ w'.cell? ⟨g0, 0, none⟩ = some (.int .i64 3) ∧ w'.cell? ⟨g0, 1, none⟩ = some (.int .i64 1) ∧ w'.cell? ⟨g0, 2, none⟩ = some (.int .u64 (y : Int))) (by kernel_rfl) (by kernel_rfl) (by kernel_rfl) (fun _ d _ _ _ h => by cases d <;> exact h) (KF.out _ (Mod.drew U1)) ?_
  simp only [planL, getO]
  iterate 8 (refine plan_take (v := ?_) (by rfl) (fun wS hS => ?_) ?_; rotate_left; (focus ((try dsimp only at hS); go_simp; (try with_reducible rfl); done)); (try simp only [Act.put, List.setIfInBounds_toArray, List.set_cons_zero, List.set_cons_succ]))
  refine plan_call (fun K hK => ?_)
  go_simp
  go_at_call 76; refine (change_any _ 2 1 m y (by omega) (by omega)).mono ?_; rintro en v2 ⟨rfl, rfl⟩; rw [HCH.out]
  refine hK.out _ _ (KF.out _ (Mod.drew U1)) ?_
  clear hK K
  iterate 5 (refine plan_take (v := ?_) (by rfl) (fun wS hS => ?_) ?_; rotate_left; (focus ((try dsimp only at hS); go_simp; (try with_reducible rfl); done)); (try simp only [Act.put, List.setIfInBounds_toArray, List.set_cons_zero, List.set_cons_succ]))
  refine plan_nil ?_
  obtain ⟨c0, c1, c2, c3, c4⟩ := KF.out _ (Mod.drew U1)
  have f1 := (HB.out.ext (Mod.drew U1)).frozen
  go_wp2_with fail
  go_ret2
  exact ⟨rfl, (HB.out.ext (Mod.drew U1)).put _, Mod.setCell (F := fun q => q = g) (Ext.mod (HW.out.2.2.trans (Mod.drew U1)) _) (.inl rfl) _⟩
set_option maxRecDepth 100000 in
set_option maxHeartbeats 800000 in
theorem do9_any (w : World) (g m : Nat) (h : CellBox w g 2 m) : Calls Try.prog 57 #[.pointer (some ⟨g, 0, none⟩), .agg #[.int .i64 9, .int .i64 0, .int .u64 0, .int .u64 0]] w fun e w' => e = .returned (.tuple #[.int .u64 0, .int .i64 8]) ∧ Ext w w' := by
  obtain ⟨w0, hw0⟩ : ∃ w0, w0 = w.alloc (.cells #[.int .i64 9, .int .i64 0, .int .u64 0, .int .u64 0] 99) := ⟨_, rfl⟩
  obtain ⟨g0, hg0⟩ : ∃ g, g = w.heap.size := ⟨_, rfl⟩
  have x0 : Ext w w0 := by rw [hw0]; exact (Mod.refl _ _).alloc _
  have b0 : OpBox w0 g0 9 0 0 0 := ⟨by rw [hw0, hg0]; exact heap_alloc_new _ _⟩
  have HW := Lib.hid (And.intro hw0 (And.intro hg0 x0))
  have HB := Lib.hid (h.ext x0)
  have KF : Hid (∀ w', Ext w0 w' → w'.cell? ⟨g, 0, none⟩ = some (.int .i64 2) ∧ w'.cell? ⟨g, 1, none⟩ = some (.int .u64 (m : Int)) ∧ w'.cell? ⟨g0, 0, none⟩ = some (.int .i64 9) ∧ w'.cell? ⟨g0, 1, none⟩ = some (.int .i64 0) ∧ w'.cell? ⟨g0, 2, none⟩ = some (.int .u64 0)) := Lib.hid fun w' x => ⟨((h.ext x0).ext x).cells.1, ((h.ext x0).ext x).cells.2, (b0.ext x).cells.1, (b0.ext x).cells.2.1, (b0.ext x).cells.2.2⟩
  have HY := Lib.hid (cut_small (y := 0) (by omega))
  clear hw0 hg0 x0 b0 h
  go_enter Try.func57, Try.ntmps57
  go_upto_region 1 with fail
  rw [← HW.out.1, ← HW.out.2.1]
  refine wp_region_plan [(0, true), (1, true), (2, true), (3, true), (4, true), (5, true), (6, true), (7, false), (8, true), (9, true)] (fun w' => w'.cell? ⟨g, 0, none⟩ = some (.int .i64 2) ∧ w'.cell? ⟨g, 1, none⟩ = some (.int .u64 (m : Int)) ∧ w'.cell? ⟨g0, 0, none⟩ = some (.int .i64 9) ∧ w'.cell? ⟨g0, 1, none⟩ = some (.int .i64 0) ∧ w'.cell? ⟨g0, 2, none⟩ = some (.int .u64 0)) (by kernel_rfl) (by kernel_rfl) (by kernel_rfl) (fun _ d _ _ _ h => by cases d <;> exact h) (KF.out _ (Mod.drew (Mod.refl _ _))) ?_
  simp only [planL, getO]
  iterate 7 (refine plan_take (v := ?_) (by rfl) (fun wS hS => ?_) ?_; rotate_left; (focus ((try dsimp only at hS); go_simp; (try with_reducible rfl); done)); (try simp only [Act.put, List.setIfInBounds_toArray, List.set_cons_zero, List.set_cons_succ]))
  refine plan_call (fun K hK => ?_)
  go_simp
  go_at_call 81; refine (ccut_any _ g 2 m 0 ((HB.out.ext (Mod.drew (Mod.refl _ _)))) (by omega)).mono ?_; rintro en v1 ⟨rfl, u1⟩; have U1 : Ext w0 v1 := Mod.trans (Mod.drew (Mod.refl _ _)) u1; rw [HY.out]
  refine hK.out _ _ (KF.out _ U1) ?_
  clear hK K
  (try simp only [Act.put, List.setIfInBounds_toArray, List.set_cons_zero, List.set_cons_succ])
  iterate 2 (refine plan_take (v := ?_) (by rfl) (fun wS hS => ?_) ?_; rotate_left; (focus ((try dsimp only at hS); go_simp; (try with_reducible rfl); done)); (try simp only [Act.put, List.setIfInBounds_toArray, List.set_cons_zero, List.set_cons_succ]))
  refine plan_nil ?_
  obtain ⟨c0, c1, c2, c3, c4⟩ := KF.out _ U1
  go_wp2_with fail
  go_ret2
  exact ⟨rfl, HW.out.2.2.trans U1⟩
set_option maxRecDepth 100000 in
theorem cword_any (w : World) (g m : Nat) (h : CellBox w g 2 m) : Calls Try.prog 58 #[.pointer (some ⟨g, 0, none⟩)] w fun e w' => e = .returned (.int .u64 (m : Int)) ∧ w' = w := by
  obtain ⟨c0, c1⟩ := h.cells
  clear h
  go_enter Try.func58, Try.ntmps58
  go_wp2_with fail
  go_ret
  exact ⟨rfl, rfl⟩
set_option maxRecDepth 100000 in
theorem cnew_one (w : World) : Calls Try.prog 56 #[.int .i64 1] w fun e w' => e = .returned (.tuple #[.pointer (some ⟨w.heap.size, 0, none⟩), .int .i64 0]) ∧ CellBox w' w.heap.size 2 0 ∧ Ext w w' := by
  go_enter Try.func56, Try.ntmps56
  go_wp2_with fail
  refine (cellkind_any _ 1).mono ?_
  rintro e w1 ⟨rfl, rfl⟩
  rw [show kindC 1 = 2 by rfl]
  go_wp2_with fail
  refine (cellkind_any _ 1).mono ?_
  rintro e w1 ⟨rfl, rfl⟩
  rw [show kindC 1 = 2 by rfl]
  go_wp2_with fail
  go_ret2
  exact ⟨rfl, ⟨heap_alloc_new _ _⟩, (Mod.refl _ _).alloc _⟩
set_option maxRecDepth 100000 in
set_option maxHeartbeats 800000 in
theorem first21_any (w : World) : Calls Try.prog 23 #[] w fun e w' => e = .returned (.bool true) ∧ Ext w w' := by
  obtain ⟨g, hg⟩ : ∃ g, g = w.heap.size := ⟨_, rfl⟩
  have HG := Lib.hid hg
  clear hg
  go_enter Try.func23, Try.ntmps23
  go_wp2_with fail
  refine (cnew_one _).mono ?_
  rintro e w1 ⟨rfl, b1, x1⟩
  rw [← HG.out] at b1 ⊢
  go_wp2_with fail
  refine (do3_any _ g 0 250 b1 (by decide) (by decide)).mono ?_
  rintro e w2 ⟨rfl, b2, m2⟩
  go_wp2_with fail
  refine (do3_any _ g 250 10 b2 (by decide) (by decide)).mono ?_
  rintro e w3 ⟨rfl, b3, m3⟩
  go_wp2_with fail
  refine (do9_any _ g 4 b3).mono ?_
  rintro e w4 ⟨rfl, x4⟩
  go_wp2_with fail
  refine (cword_any _ g 4 (b3.ext x4)).mono ?_
  rintro e w5 ⟨rfl, rfl⟩
  go_wp2_with fail
  go_ret
  exact ⟨rfl, (x1.trans' (m2.trans m3) (fun i hi => .inr (by rw [hi, HG.out]; exact Nat.le_refl _))).trans x4⟩
end Go.Proofs.Ytbhocahmhmafmaa
namespace Go.Proofs.Ytbhocahmhmafmaa
open Go.Ren Go.RowKit
set_option linter.unusedVariables false
def nilV : Vs := ⟨.slice none 0 0, .slice none 0 0, .slice none 0 0⟩
theorem nil_ev (w : World) {blk pos size : Int} (h1 : I64 blk) (h2 : I64 pos) (h3 : I64 size) : EvAt w (ldE blk pos size) nilV :=
  ⟨(Go.Ren.Own.nil w 5 1).sl, (Go.Ren.Own.nil w 5 1).sl, ⟨(Go.Ren.Own.nil w 3 1).sl, fun x hx => by cases hx⟩, ⟨by show I64 0; unfold I64; omega, by show I64 1; unfold I64; omega, h1, h2, h3, fun x hx => by cases hx⟩⟩
set_option maxRecDepth 100000 in
set_option maxHeartbeats 1600000 in
theorem clean_any (w : World) (ve vp : Value) (V : Nat → Vs) (L : Lg) (h : LogIn w ve vp V L) (blk pos size : Int) (hb : I64 blk) (ha : I64 pos) (hs : I64 size) :
    Calls Try.prog 25 #[.agg #[ve, vp], .int .i64 blk, .int .i64 pos, .int .i64 size] w (FPost (cleanB L (ldE blk pos size)) w) := by
  have HBI := Lib.hid (And.intro hb (And.intro ha hs))
  clear hb ha hs
  have q1 := Sl.cells_eq h.row
  have q2 := Sl.cells_eq h.prow
  have s1 := Sl.run_st (P := Try.prog) h.row
  have s2 := Sl.run_st (P := Try.prog) h.prow
  obtain ⟨w0, hw0⟩ : ∃ w0, w0 = w.alloc (.cells #[ve, vp] 46) := ⟨_, rfl⟩
  obtain ⟨g0, hg0⟩ : ∃ g, g = w.heap.size := ⟨_, rfl⟩
  have x0 : Ext w w0 := by rw [hw0]; exact (Mod.refl _ _).alloc _
  have b0 : LogBox w0 g0 ve vp := ⟨by rw [hw0, hg0]; exact heap_alloc_new _ _⟩
  have HW := Lib.hid (And.intro hw0 (And.intro hg0 x0))
  have KE : Hid (∀ w', Ext w0 w' → LogIn w' ve vp V L ∧ LogBox w' g0 ve vp) := Lib.hid fun w' x => ⟨h.ext (x0.trans x), b0.ext x⟩
  have HI := Lib.hid (h.row.run_idx (P := Try.prog) IEv.und IEv.size .i64)
  have HJ := Lib.hid (h.prow.run_idx (P := Try.prog) IP.und IP.size .i64)
  have l1 := h.row.run_len (P := Try.prog) IEv.und 3
  have l2 := h.prow.run_len (P := Try.prog) IP.und 3
  obtain ⟨c0, c1⟩ := b0.cells
  clear hw0 hg0 x0 b0 h
  go_enter Try.func25, Try.ntmps25
  go_upto_region 1 with fail
  rw [← HW.out.1, ← HW.out.2.1]
  clear s1 s2
  go_wp2_with fail
  refine (may_any _ ve vp V L (KE.out _ (Mod.refl _ _)).1).mono ?_
  rintro e w2 ⟨rfl, y1⟩
  clear c0 c1
  have HY1 := Lib.hid y1
  cases hm : mayL L with
  | false =>
    have HC : Hid (cleanB L (ldE blk pos size) = false) := Lib.hid (clean_no (.inl hm))
    clear hm
    go_wp2_with fail
    go_ret
    exact ⟨by rw [HC.out]; rfl, HW.out.2.2.trans y1⟩
  | true =>
    have HM := Lib.hid hm
    have hle : (L.ev.length : Int) ≤ 1000 := by have := (mayL_iff.1 hm).1.1; omega
    clear hm
    cases hg : goodB size with
    | false =>
      have HC : Hid (cleanB L (ldE blk pos size) = false) := Lib.hid (clean_no (.inr hg))
      have HGB := Lib.hid hg
      have hk := (kindC_good size).trans (by rw [hg]; rfl : (!goodB size) = true)
      clear hg
      go_wp2_with fail
      refine (cellkind_any _ size).mono ?_
      rintro e w2 ⟨rfl, rfl⟩
      skip
      go_wp2_with fail
      go_ret
      exact ⟨by rw [HC.out]; rfl, HW.out.2.2.trans HY1.out⟩
    | true =>
      have HGD : Hid (goodB (ldE blk pos size).size = true) := Lib.hid hg
      have HGB := Lib.hid hg
      have hk := (kindC_good size).trans (by rw [hg]; rfl : (!goodB size) = false)
      clear hg y1
      go_wp2_with fail
      refine (cellkind_any _ size).mono ?_
      rintro e w2 ⟨rfl, rfl⟩
      skip
      obtain ⟨c0, c1⟩ := (KE.out _ HY1.out).2.cells
      obtain ⟨w3, hw3⟩ : ∃ w3, w3 = w2.alloc (.cells #[.int .i64 0, .int .i64 1, .bool false, .bool false, .int .i64 blk, .int .i64 pos, .int .i64 size, .slice none 0 0, .slice none 0 0, .slice none 0 0] 54) := ⟨_, rfl⟩
      obtain ⟨g3, hg3⟩ : ∃ g, g = w2.heap.size := ⟨_, rfl⟩
      have x3 : Ext w2 w3 := by rw [hw3]; exact (Mod.refl _ _).alloc _
      have b3 : EvBox w3 g3 (ldE blk pos size) nilV := ⟨by rw [hw3, hg3]; exact heap_alloc_new _ _⟩
      have HW3 := Lib.hid (And.intro hw3 hg3)
      have HX3 := Lib.hid (HY1.out.trans x3)
      have KX : Hid (∀ w', Ext w3 w' → EvAt w' (ldE blk pos size) nilV ∧ EvBox w' g3 (ldE blk pos size) nilV) := Lib.hid fun w' x => ⟨nil_ev w' HBI.out.1 HBI.out.2.1 HBI.out.2.2, b3.ext x⟩
      clear hw3 hg3 x3 b3 c0 c1
      go_upto_region 4 with fail
      rw [← HW3.out.1, ← HW3.out.2]
      obtain ⟨c0, c1⟩ := (KE.out _ HX3.out).2.cells
      go_wp2_with fail
      clear c0 c1
      go_loopw [27] (fun s wr => ∃ r : Nat, r ≤ L.ev.length ∧ s = .int .i64 (r : Int) ∧ (∀ j, j < r → cl1 (evn L.ev j) (ldE blk pos size) = false) ∧ Ext w3 wr) (fun s _ => L.ev.length - (intOf s).toNat)
      case atStart => exact ⟨0, Nat.zero_le _, rfl, fun j hj => absurd hj (Nat.not_lt_zero _), Mod.refl _ _⟩
      case round =>
        obtain ⟨r, hr, rfl, hn, xx⟩ := hrel
        have HN := Lib.hid hn
        have HX := Lib.hid xx
        clear hn xx
        by_cases hlt : r < L.ev.length
        · have hlt' : (r : Int) < (L.ev.length : Int) := by omega
          have i0 := HI.out r hlt
          have hlg := (KE.out _ (HX3.out.trans HX.out)).1
          obtain ⟨c0, c1, c2, c3, c4, c5, c6, c7, c8, c9⟩ := hlg.cells hlt
          have hea := hlg.ev r hlt
          obtain ⟨e, he⟩ : ∃ e, e = evn L.ev r := ⟨_, rfl⟩
          obtain ⟨v, hv⟩ : ∃ v, v = V r := ⟨_, rfl⟩
          obtain ⟨A, hA⟩ : ∃ A, A = at_ ve (r * 10) := ⟨_, rfl⟩
          rw [← hA] at i0 c0 c1 c2 c3 c4 c5 c6 c7 c8 c9
          rw [← he] at c0 c1 c2 c3 c4 c5 c6 hea
          rw [← hv] at c7 c8 c9 hea
          obtain ⟨k1, k2, k3, t1, t2, t3⟩ := ev_facts hea
          obtain ⟨w5, hw5⟩ : ∃ w5, w5 = wr.alloc (.cells (evArr e v) 54) := ⟨_, rfl⟩
          obtain ⟨g5, hg5⟩ : ∃ g, g = wr.heap.size := ⟨_, rfl⟩
          have x5 : Ext wr w5 := by rw [hw5]; exact (Mod.refl _ _).alloc _
          have b5 : EvBox w5 g5 e v := by rw [hw5, hg5]; exact EvBox.of wr e v
          have HEA := Lib.hid (hea.ext x5)
          have HE := Lib.hid (And.intro he hv)
          have HW5 := Lib.hid (And.intro hw5 (And.intro hg5 (And.intro x5 b5)))
          have l5 := hea.fr.sl.run_len (P := Try.prog) II.und 3
          have J5 := Lib.hid (hea.fr.sl.run_idx (P := Try.prog) II.und II.size .i64)
          obtain ⟨d0, d1, d2, d3, d4, d5, d6, d7, d8, d9⟩ := b5.cells
          clear hlg hea he hv hA hw5 hg5 x5 b5
          go_upto_region 7 with fail
          rw [← HW5.out.1, ← HW5.out.2.1]
          clear c0 c1 c2 c3 c4 c5 c6 c7 c8 c9 t1 t2 t3 i0
          have HXQ := Lib.hid (HX.out.trans HW5.out.2.2.1)
          obtain ⟨O, hO⟩ : ∃ O, O = evOver e (ldE blk pos size) := ⟨_, rfl⟩
          obtain ⟨Q, hQ⟩ : ∃ O, O = evEq e (ldE blk pos size) := ⟨_, rfl⟩
          obtain ⟨S, hS⟩ : ∃ O, O = e.seq := ⟨_, rfl⟩
          have HO := Lib.hid hO.symm
          have HQ := Lib.hid hQ.symm
          have HS := Lib.hid hS.symm
          have HC1 : Hid (cl1 (evn L.ev r) (ldE blk pos size) = (O && (!S || !Q))) := Lib.hid (by rw [← HE.out.1, hO, hQ, hS]; rfl)
          have KV : Hid (∀ w', Ext w5 w' → EvAt w' ⟨e.ag, e.kind, S, e.nt, e.blk, e.at_, e.size, e.rd, e.wr, e.fr⟩ v) := Lib.hid fun w' z => by rw [hS]; exact HEA.out.ext z
          clear hO hQ hS
          obtain ⟨a0, a1, a2, a3, a4, a5, a6, a7, a8, a9⟩ := (KX.out _ (HXQ.out)).2.cells
          go_wp2_with fail
          refine (overlap_any _ e (ldE blk pos size) v nilV HEA.out (KX.out _ HXQ.out).1).mono ?_
          rintro en w6 ⟨rfl, y6⟩
          rw [HO.out]
          clear d0 d1 d2 d3 d4 d5 d6 d7 d8 d9 a0 a1 a2 a3 a4 a5 a6 a7 a8 a9
          have HXR := Lib.hid (HXQ.out.trans y6)
          obtain ⟨d0, d1, d2, d3, d4, d5, d6, d7, d8, d9⟩ := (HW5.out.2.2.2.ext y6).cells
          obtain ⟨a0, a1, a2, a3, a4, a5, a6, a7, a8, a9⟩ := (KX.out _ (HXR.out)).2.cells
          have HY6 := Lib.hid y6
          rw [HS.out] at d2
          cases O with
          | false =>
            have HNN : Hid (∀ j, j < r + 1 → cl1 (evn L.ev j) (ldE blk pos size) = false) := Lib.hid (fun j hj => by
              by_cases e : j = r
              · rw [e, HC1.out]; rfl
              · exact HN.out j (by omega))
            clear y6
            go_wp2_with fail
            go_roundw
            case rel => exact ⟨r + 1, by omega, by go_num, HNN.out, HXR.out⟩
            case measure => simp [intOf]; omega
          | true =>
            cases S with
            | false =>
              have HF : Hid (cleanB L (ldE blk pos size) = false) := Lib.hid (clean_hit hlt (by rw [HC1.out]; rfl))
              clear y6
              go_wp2_with fail
              go_ret
              exact ⟨by rw [HF.out]; rfl, HW.out.2.2.trans (HX3.out.trans (HXR.out))⟩
            | true =>
              clear y6
              go_wp2_with fail
              refine (equal_any _ ⟨e.ag, e.kind, true, e.nt, e.blk, e.at_, e.size, e.rd, e.wr, e.fr⟩ (ldE blk pos size) v nilV (KV.out _ HY6.out) (KX.out _ HXR.out).1).mono ?_
              rintro en w7 ⟨rfl, y6⟩
              rw [show evEq ⟨e.ag, e.kind, true, e.nt, e.blk, e.at_, e.size, e.rd, e.wr, e.fr⟩ (ldE blk pos size) = Q from HQ.out]
              clear d0 d1 d2 d3 d4 d5 d6 d7 d8 d9 a0 a1 a2 a3 a4 a5 a6 a7 a8 a9
              have HXT := Lib.hid (HXR.out.trans y6)
              cases Q with
              | false =>
                have HF : Hid (cleanB L (ldE blk pos size) = false) := Lib.hid (clean_hit hlt (by rw [HC1.out]; rfl))
                clear y6
                go_wp2_with fail
                go_ret
                exact ⟨by rw [HF.out]; rfl, HW.out.2.2.trans (HX3.out.trans (HXT.out))⟩
              | true =>
                have HNN : Hid (∀ j, j < r + 1 → cl1 (evn L.ev j) (ldE blk pos size) = false) := Lib.hid (fun j hj => by
                  by_cases e : j = r
                  · rw [e, HC1.out]; rfl
                  · exact HN.out j (by omega))
                clear y6
                go_wp2_with fail
                go_roundw
                case rel => exact ⟨r + 1, by omega, by go_num, HNN.out, HXT.out⟩
                case measure => simp [intOf]; omega
        · have hlt' : ¬ (r : Int) < (L.ev.length : Int) := by omega
          have hrn : r = L.ev.length := by omega
          have HT : Hid (cleanB L (ldE blk pos size) = true) := Lib.hid (clean_yes HM.out HGD.out (by rw [← hrn]; exact HN.out))
          clear hrn
          go_wp2_with fail
          go_ret
          exact ⟨by rw [HT.out]; rfl, HW.out.2.2.trans (HX3.out.trans HX.out)⟩
end Go.Proofs.Ytbhocahmhmafmaa
namespace Go.Proofs.Ytbhocahmhmafmaa
open Go.Ren Go.RowKit
set_option linter.unusedVariables false
theorem rep_zero (L : Lg) (b a : Int) (s : Nat) : wordN (repS L (ldE b a (s : Int)) 0) = 0 := by
  show wordN (List.replicate _ 0) = 0
  generalize (ldE b a (s : Int)).size.toNat = n
  induction n with
  | zero => rfl
  | succ n ih => rw [List.replicate_succ]; unfold wordN; rw [ih]; rfl
theorem bytesEq_any (w : World) (v1 v2 : Value) (a b : List UInt8) (h1 : BytesAt w v1 a) (h2 : BytesAt w v2 b) :
    Calls Try.prog 61 #[v1, v2] w fun e w' => e = .returned (.bool (a == b)) ∧ w = w' := by
  have e1 := h1.run_string (P := Try.prog) (D := 9) Try.underlying52 Try.underlying5 Try.underlying9
  have e2 := h2.run_string (P := Try.prog) (D := 9) Try.underlying52 Try.underlying5 Try.underlying9
  have s1 := str_toList a
  have s2 := str_toList b
  clear h1 h2
  go_enter Try.func61, Try.ntmps61
  go_wp2
  go_ret
  exact ⟨rfl, rfl⟩
set_option maxRecDepth 100000 in
set_option maxHeartbeats 1600000 in
theorem replay_any (w : World) (ve vp : Value) (V : Nat → Vs) (L : Lg) (h : LogIn w ve vp V L) (blk pos size : Int) (hb : I64 blk) (ha : I64 pos) (hs : I64 size) :
    Calls Try.prog 24 #[.agg #[ve, vp], .int .i64 blk, .int .i64 pos, .int .i64 size] w (FPost (repB L (ldE blk pos size)) w) := by
  have HBI := Lib.hid (And.intro hb (And.intro ha hs))
  clear hb ha hs
  have q1 := Sl.cells_eq h.row
  have q2 := Sl.cells_eq h.prow
  have s1 := Sl.run_st (P := Try.prog) h.row
  have s2 := Sl.run_st (P := Try.prog) h.prow
  obtain ⟨w0, hw0⟩ : ∃ w0, w0 = w.alloc (.cells #[ve, vp] 46) := ⟨_, rfl⟩
  obtain ⟨g0, hg0⟩ : ∃ g, g = w.heap.size := ⟨_, rfl⟩
  have x0 : Ext w w0 := by rw [hw0]; exact (Mod.refl _ _).alloc _
  have b0 : LogBox w0 g0 ve vp := ⟨by rw [hw0, hg0]; exact heap_alloc_new _ _⟩
  have HW := Lib.hid (And.intro hw0 (And.intro hg0 x0))
  have KE : Hid (∀ w', Ext w0 w' → LogIn w' ve vp V L ∧ LogBox w' g0 ve vp) := Lib.hid fun w' x => ⟨h.ext (x0.trans x), b0.ext x⟩
  have HI := Lib.hid (h.row.run_idx (P := Try.prog) IEv.und IEv.size .i64)
  have HJ := Lib.hid (h.prow.run_idx (P := Try.prog) IP.und IP.size .i64)
  have l1 := h.row.run_len (P := Try.prog) IEv.und 3
  have l2 := h.prow.run_len (P := Try.prog) IP.und 3
  obtain ⟨c0, c1⟩ := b0.cells
  clear hw0 hg0 x0 b0 h
  go_enter Try.func24, Try.ntmps24
  go_upto_region 1 with fail
  rw [← HW.out.1, ← HW.out.2.1]
  clear s1 s2
  go_wp2_with fail
  refine (clean_any _ ve vp V L (KE.out _ (Mod.refl _ _)).1 blk pos size HBI.out.1 HBI.out.2.1 HBI.out.2.2).mono ?_
  rintro e w2 ⟨rfl, y1⟩
  clear c0 c1
  have HY1 := Lib.hid y1
  clear y1
  cases hc : cleanB L (ldE blk pos size) with
  | false =>
    have HC : Hid (repB L (ldE blk pos size) = false) := Lib.hid (rep_no hc)
    clear hc
    go_wp2_with fail
    go_ret
    exact ⟨by rw [HC.out]; rfl, HW.out.2.2.trans HY1.out⟩
  | true =>
    have hle : (L.ev.length : Int) ≤ 1000 := by have := (mayL_iff.1 (clean_facts hc).1).1.1; omega
    obtain ⟨s, hsz⟩ : ∃ s : Nat, size = (s : Int) := ⟨size.toNat, by have := goodB_le (clean_facts hc).2; show size = _; change 1 ≤ size ∧ size ≤ 8 at this; omega⟩
    have hs8 : s ≤ 8 := by have := goodB_le (clean_facts hc).2; change 1 ≤ size ∧ size ≤ 8 at this; omega
    subst hsz
    have HSZ := Lib.hid hs8
    have m1 := run_make_row' (P := Try.prog) 52 5 (.int .u8 0) 1 IB.und IB.info rfl .i64 .i64 s (by omega) (by omega)
    have HCL := Lib.hid hc
    clear hc hs8
    obtain ⟨c0, c1⟩ := (KE.out _ HY1.out).2.cells
    obtain ⟨w3, hw3⟩ : ∃ w3, w3 = w2.alloc (.cells #[.int .i64 0, .int .i64 1, .bool false, .bool false, .int .i64 blk, .int .i64 pos, .int .i64 (s : Int), .slice none 0 0, .slice none 0 0, .slice none 0 0] 54) := ⟨_, rfl⟩
    obtain ⟨g3, hg3⟩ : ∃ g, g = w2.heap.size := ⟨_, rfl⟩
    have x3 : Ext w2 w3 := by rw [hw3]; exact (Mod.refl _ _).alloc _
    have b3 : EvBox w3 g3 (ldE blk pos (s : Int)) nilV := ⟨by rw [hw3, hg3]; exact heap_alloc_new _ _⟩
    have HW3 := Lib.hid (And.intro hw3 hg3)
    have HX3 := Lib.hid (HY1.out.trans x3)
    have KX : Hid (∀ w', Ext w3 w' → EvAt w' (ldE blk pos (s : Int)) nilV ∧ EvBox w' g3 (ldE blk pos (s : Int)) nilV) := Lib.hid fun w' x => ⟨nil_ev w' HBI.out.1 HBI.out.2.1 HBI.out.2.2, b3.ext x⟩
    clear hw3 hg3 x3 b3 c0 c1
    go_upto_region 4 with fail
    rw [← HW3.out.1, ← HW3.out.2]
    go_upto_region 5 with fail
    obtain ⟨w4, hw4⟩ : ∃ w4, w4 = w3.alloc (.cells (madeCells #[.int .u8 0] s) 5) := ⟨_, rfl⟩
    obtain ⟨v0, hv0⟩ : ∃ v : Value, v = .slice (some ⟨w3.heap.size, 0, none⟩) s s := ⟨_, rfl⟩
    rw [← hw4, ← hv0]
    have x4 : Ext w3 w4 := by rw [hw4]; exact (Mod.refl _ _).alloc _
    have B0 : Hid (BytesAt w4 v0 (repS L (ldE blk pos (s : Int)) 0)) := Lib.hid (by
      have h1 : w4.heap[w3.heap.size]? = some (.cells (madeCells #[.int .u8 0] s) 5 (0, 0)) := by rw [hw4]; exact heap_alloc_new _ _
      have h2 := (Go.Ren.Own.made_at h1 (by simp only [maxLen]; have := HSZ.out; omega)).sl
      rw [hv0]
      show Sl w4 _ 1 (List.replicate (s : Int).toNat (0 : UInt8)).length ((List.replicate (s : Int).toNat (0 : UInt8)).map bv)
      rw [Int.toNat_natCast, List.length_replicate, List.map_replicate]
      exact h2)
    have HX4 := Lib.hid x4
    have HE4 := Lib.hid (HX3.out.trans x4)
    clear hw4 hv0 x4
    obtain ⟨c0, c1⟩ := (KE.out _ HE4.out).2.cells
    go_wp2_with fail
    clear c0 c1
    go_loopw [10, 28] (fun s10 sr wr => ∃ r : Nat, r ≤ L.ev.length ∧ sr = .int .i64 (r : Int) ∧ BytesAt wr s10 (repS L (ldE blk pos (s : Int)) r) ∧ (∀ j, j < r → rep1 L (ldE blk pos (s : Int)) j = false) ∧ Ext w4 wr) (fun _ s _ => L.ev.length - (intOf s).toNat)
    case atStart => exact ⟨0, Nat.zero_le _, rfl, B0.out, fun j hj => absurd hj (Nat.not_lt_zero _), Mod.refl _ _⟩
    case round =>
      obtain ⟨r, hr, rfl, hbw, hn, xx⟩ := hrel
      have HN := Lib.hid hn
      have HX := Lib.hid xx
      have HBW := Lib.hid hbw
      clear hbw
      clear hn xx
      by_cases hlt : r < L.ev.length
      · have hlt' : (r : Int) < (L.ev.length : Int) := by omega
        have i0 := HI.out r hlt
        have hlg := (KE.out _ (HE4.out.trans HX.out)).1
        obtain ⟨c0, c1, c2, c3, c4, c5, c6, c7, c8, c9⟩ := hlg.cells hlt
        have hea := hlg.ev r hlt
        obtain ⟨e, he⟩ : ∃ e, e = evn L.ev r := ⟨_, rfl⟩
        obtain ⟨v, hv⟩ : ∃ v, v = V r := ⟨_, rfl⟩
        obtain ⟨A, hA⟩ : ∃ A, A = at_ ve (r * 10) := ⟨_, rfl⟩
        rw [← hA] at i0 c0 c1 c2 c3 c4 c5 c6 c7 c8 c9
        rw [← he] at c0 c1 c2 c3 c4 c5 c6 hea
        rw [← hv] at c7 c8 c9 hea
        obtain ⟨k1, k2, k3, t1, t2, t3⟩ := ev_facts hea
        obtain ⟨w5, hw5⟩ : ∃ w5, w5 = wr.alloc (.cells (evArr e v) 54) := ⟨_, rfl⟩
        obtain ⟨g5, hg5⟩ : ∃ g, g = wr.heap.size := ⟨_, rfl⟩
        have x5 : Ext wr w5 := by rw [hw5]; exact (Mod.refl _ _).alloc _
        have b5 : EvBox w5 g5 e v := by rw [hw5, hg5]; exact EvBox.of wr e v
        have HEA := Lib.hid (hea.ext x5)
        have HE := Lib.hid (And.intro he hv)
        have HW5 := Lib.hid (And.intro hw5 (And.intro hg5 (And.intro x5 b5)))
        have l5 := hea.fr.sl.run_len (P := Try.prog) II.und 3
        have J5 := Lib.hid (hea.fr.sl.run_idx (P := Try.prog) II.und II.size .i64)
        obtain ⟨d0, d1, d2, d3, d4, d5, d6, d7, d8, d9⟩ := b5.cells
        clear hlg hea he hv hA hw5 hg5 x5 b5
        go_upto_region 8 with fail
        rw [← HW5.out.1, ← HW5.out.2.1]
        clear c0 c1 c2 c3 c4 c5 c6 c7 c8 c9 t1 t2 t3 i0
        have HXQ := Lib.hid (HX.out.trans HW5.out.2.2.1)
        obtain ⟨Q, hQ⟩ : ∃ O, O = evEq e (ldE blk pos (s : Int)) := ⟨_, rfl⟩
        obtain ⟨RD, hRD⟩ : ∃ O, O = rdsB e := ⟨_, rfl⟩
        obtain ⟨WR, hWR⟩ : ∃ O, O = wrsB e := ⟨_, rfl⟩
        obtain ⟨EB, hEB⟩ : ∃ O, O = (e.rd == repS L (ldE blk pos (s : Int)) r) := ⟨_, rfl⟩
        have HQ := Lib.hid hQ.symm
        have HRD := Lib.hid hRD.symm
        have HWR := Lib.hid hWR.symm
        have HEB := Lib.hid hEB.symm
        have HR1 : Hid (Q = true → rep1 L (ldE blk pos (s : Int)) r = (RD && !EB)) := Lib.hid fun h => rep1_of (by rw [← HE.out.1, ← hQ]; exact h) (by rw [← HE.out.1, ← hRD]) (by rw [← HE.out.1, ← hEB])
        clear hQ hRD hWR hEB
        obtain ⟨a0, a1, a2, a3, a4, a5, a6, a7, a8, a9⟩ := (KX.out _ (HX4.out.trans HXQ.out)).2.cells
        go_wp2_with fail
        refine (equal_any _ e (ldE blk pos (s : Int)) v nilV HEA.out (KX.out _ (HX4.out.trans HXQ.out)).1).mono ?_
        rintro en w6 ⟨rfl, y6⟩
        rw [HQ.out]
        clear d0 d1 d2 d3 d4 d5 d6 d7 d8 d9
        clear a0 a1 a2 a3 a4 a5 a6 a7 a8 a9
        have HY6 := Lib.hid y6
        clear y6
        cases Q with
        | false =>
          have HNO : Hid (rep1 L (ldE blk pos (s : Int)) r = false) := Lib.hid (rep_skip (by rw [← HE.out.1]; exact HQ.out)).1
          have HREP : Hid (repS L (ldE blk pos (s : Int)) (r + 1) = repS L (ldE blk pos (s : Int)) r) := Lib.hid (rep_skip (by rw [← HE.out.1]; exact HQ.out)).2
          have HNN : Hid (∀ j, j < r + 1 → rep1 L (ldE blk pos (s : Int)) j = false) := Lib.hid (fun j hj => by
            by_cases e : j = r
            · rw [e]; exact HNO.out
            · exact HN.out j (by omega))
          go_wp2_with fail
          go_roundw
          case rel => exact ⟨r + 1, by omega, by go_num, by rw [HREP.out]; exact HBW.out.ext (HW5.out.2.2.1.trans (HY6.out)), HNN.out, HXQ.out.trans (HY6.out)⟩
          case measure => simp [intOf]; omega
        | true =>
          have HR2 := Lib.hid (HR1.out rfl)
          clear HR1
          have HNX : Hid (repS L (ldE blk pos (s : Int)) (r + 1) = if WR = true then e.wr else repS L (ldE blk pos (s : Int)) r) := Lib.hid (by have h := rep_next (L := L) (x := (ldE blk pos (s : Int))) (r := r) (by rw [← HE.out.1]; exact HQ.out); rw [h, ← HE.out.1, HWR.out])
          obtain ⟨d0, d1, d2, d3, d4, d5, d6, d7, d8, d9⟩ := (HW5.out.2.2.2.ext HY6.out).cells
          go_wp2_with fail
          refine (reads_any _ e v (HEA.out.ext HY6.out)).mono ?_
          rintro en w7 ⟨rfl, y7⟩
          rw [HRD.out]
          clear d0 d1 d2 d3 d4 d5 d6 d7 d8 d9
          have HY7 := Lib.hid (HY6.out.trans y7)
          clear y7
          cases RD with
          | false =>
            have HNO : Hid (rep1 L (ldE blk pos (s : Int)) r = false) := Lib.hid (by rw [HR2.out]; rfl)
            obtain ⟨d0, d1, d2, d3, d4, d5, d6, d7, d8, d9⟩ := (HW5.out.2.2.2.ext HY7.out).cells
            go_wp2_with fail
            refine (writes_any _ e v (HEA.out.ext (HY7.out))).mono ?_
            rintro en w8 ⟨rfl, y8⟩
            rw [HWR.out]
            clear d0 d1 d2 d3 d4 d5 d6 d7 d8 d9
            have HZ := Lib.hid ((HY7.out).trans y8)
            clear y8
            cases WR with
            | false =>
              have HREP : Hid (repS L (ldE blk pos (s : Int)) (r + 1) = repS L (ldE blk pos (s : Int)) r) := Lib.hid (by rw [HNX.out]; rfl)
              have HNN : Hid (∀ j, j < r + 1 → rep1 L (ldE blk pos (s : Int)) j = false) := Lib.hid (fun j hj => by
                by_cases e : j = r
                · rw [e]; exact HNO.out
                · exact HN.out j (by omega))
              go_wp2_with fail
              go_roundw
              case rel => exact ⟨r + 1, by omega, by go_num, by rw [HREP.out]; exact HBW.out.ext (HW5.out.2.2.1.trans (HZ.out)), HNN.out, HXQ.out.trans (HZ.out)⟩
              case measure => simp [intOf]; omega
            | true =>
              have HREP : Hid (repS L (ldE blk pos (s : Int)) (r + 1) = e.wr) := Lib.hid (by rw [HNX.out]; rfl)
              obtain ⟨d0, d1, d2, d3, d4, d5, d6, d7, d8, d9⟩ := (HW5.out.2.2.2.ext HZ.out).cells
              have HNN : Hid (∀ j, j < r + 1 → rep1 L (ldE blk pos (s : Int)) j = false) := Lib.hid (fun j hj => by
                by_cases e : j = r
                · rw [e]; exact HNO.out
                · exact HN.out j (by omega))
              go_wp2_with fail
              go_roundw
              case rel => exact ⟨r + 1, by omega, by go_num, by rw [HREP.out]; exact (HEA.out.ext HZ.out).wr, HNN.out, HXQ.out.trans (HZ.out)⟩
              case measure => simp [intOf]; omega
          | true =>
            obtain ⟨d0, d1, d2, d3, d4, d5, d6, d7, d8, d9⟩ := (HW5.out.2.2.2.ext HY7.out).cells
            go_wp2_with fail
            refine (bytesEq_any _ v.r _ e.rd (repS L (ldE blk pos (s : Int)) r) (HEA.out.ext HY7.out).rd (HBW.out.ext (HW5.out.2.2.1.trans HY7.out))).mono ?_
            rintro en w7 ⟨rfl, rfl⟩
            rw [HEB.out]
            clear d0 d1 d2 d3 d4 d5 d6 d7 d8 d9
            cases EB with
            | false =>
              have HF : Hid (repB L (ldE blk pos (s : Int)) = false) := Lib.hid (rep_hit hlt (by rw [HR2.out]; rfl))
              go_wp2_with fail
              go_ret
              exact ⟨by rw [HF.out]; rfl, HW.out.2.2.trans (HE4.out.trans (HXQ.out.trans HY7.out))⟩
            | true =>
              have HNO : Hid (rep1 L (ldE blk pos (s : Int)) r = false) := Lib.hid (by rw [HR2.out]; rfl)
              obtain ⟨d0, d1, d2, d3, d4, d5, d6, d7, d8, d9⟩ := (HW5.out.2.2.2.ext HY7.out).cells
              go_wp2_with fail
              refine (writes_any _ e v (HEA.out.ext (HY7.out))).mono ?_
              rintro en w8 ⟨rfl, y8⟩
              rw [HWR.out]
              clear d0 d1 d2 d3 d4 d5 d6 d7 d8 d9
              have HZ := Lib.hid ((HY7.out).trans y8)
              clear y8
              cases WR with
              | false =>
                have HREP : Hid (repS L (ldE blk pos (s : Int)) (r + 1) = repS L (ldE blk pos (s : Int)) r) := Lib.hid (by rw [HNX.out]; rfl)
                have HNN : Hid (∀ j, j < r + 1 → rep1 L (ldE blk pos (s : Int)) j = false) := Lib.hid (fun j hj => by
                  by_cases e : j = r
                  · rw [e]; exact HNO.out
                  · exact HN.out j (by omega))
                go_wp2_with fail
                go_roundw
                case rel => exact ⟨r + 1, by omega, by go_num, by rw [HREP.out]; exact HBW.out.ext (HW5.out.2.2.1.trans (HZ.out)), HNN.out, HXQ.out.trans (HZ.out)⟩
                case measure => simp [intOf]; omega
              | true =>
                have HREP : Hid (repS L (ldE blk pos (s : Int)) (r + 1) = e.wr) := Lib.hid (by rw [HNX.out]; rfl)
                obtain ⟨d0, d1, d2, d3, d4, d5, d6, d7, d8, d9⟩ := (HW5.out.2.2.2.ext HZ.out).cells
                have HNN : Hid (∀ j, j < r + 1 → rep1 L (ldE blk pos (s : Int)) j = false) := Lib.hid (fun j hj => by
                  by_cases e : j = r
                  · rw [e]; exact HNO.out
                  · exact HN.out j (by omega))
                go_wp2_with fail
                go_roundw
                case rel => exact ⟨r + 1, by omega, by go_num, by rw [HREP.out]; exact (HEA.out.ext HZ.out).wr, HNN.out, HXQ.out.trans (HZ.out)⟩
                case measure => simp [intOf]; omega
      · have hlt' : ¬ (r : Int) < (L.ev.length : Int) := by omega
        have hrn : r = L.ev.length := by omega
        have HT : Hid (repB L (ldE blk pos (s : Int)) = true) := Lib.hid (rep_yes HCL.out (by rw [← hrn]; exact HN.out))
        clear hrn
        go_wp2_with fail
        go_ret
        exact ⟨by rw [HT.out]; rfl, HW.out.2.2.trans (HE4.out.trans HX.out)⟩
end Go.Proofs.Ytbhocahmhmafmaa
