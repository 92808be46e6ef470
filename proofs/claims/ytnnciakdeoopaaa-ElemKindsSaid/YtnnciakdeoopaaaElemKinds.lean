/-
  ElemKinds: the walk of renlaw4.ElemKinds. No condition.
-/
import Derived.Test.YtnnciakdeoopaaaElemFirst
import Derived.Test.YtnnciakdeoopaaaPlanT
import Derived.BigRegion
import Derived.Deep.DeepCutAuto
import Derived.Deep.RegionLaw
namespace Go.Ren
set_option linter.unusedVariables false
theorem run_minI {P : Program} (a b : Int) (ts : Array TypeId) (ty : TypeId) (w : World) : (Builtin.min_ ts ty #[.int .i64 a, .int .i64 b]).run P w = .ok (.int .i64 (min a b)) w := by
  by_cases h : b < a
  · have e : min a b = b := by omega
    rw [e]; simp [Builtin.min_, Builtin.min2, h]
  · have e : min a b = a := by omega
    rw [e]; simp [Builtin.min_, Builtin.min2, h]
theorem run_maxI {P : Program} (a b : Int) (ts : Array TypeId) (ty : TypeId) (w : World) : (Builtin.max_ ts ty #[.int .i64 a, .int .i64 b]).run P w = .ok (.int .i64 (max a b)) w := by
  by_cases h : a < b
  · have e : max a b = b := by omega
    rw [e]; simp [Builtin.max_, Builtin.max2, h]
  · have e : max a b = a := by omega
    rw [e]; simp [Builtin.max_, Builtin.max2, h]
def inK (k : Int) (i : Nat) : Bool := decide (1 ≤ k ∧ k ≤ (i : Int))
theorem szK_up {i : Nat} (h : i < 8) : szK ((i : Int) + 1) ≠ 0 ∧ (1 ≤ i → szK (i : Int) ≤ szK ((i : Int) + 1)) := by
  rcases (by omega : i = 0 ∨ i = 1 ∨ i = 2 ∨ i = 3 ∨ i = 4 ∨ i = 5 ∨ i = 6 ∨ i = 7) with rfl | rfl | rfl | rfl | rfl | rfl | rfl | rfl <;> decide
theorem kindsP_get {i : Nat} (h : i < 8) : ((kindsP 8).map iv)[i]? = some (.int .i64 ((i : Int) + 1)) := by
  rcases (by omega : i = 0 ∨ i = 1 ∨ i = 2 ∨ i = 3 ∨ i = 4 ∨ i = 5 ∨ i = 6 ∨ i = 7) with rfl | rfl | rfl | rfl | rfl | rfl | rfl | rfl <;> rfl
end Go.Ren
namespace Go.Proofs.Ytnnciakdeoopaaa
open Go.Ren Go.RowKit
set_option linter.unusedVariables false
def EKPost (b : Bool) (w : World) (e : Ending) (w' : World) : Prop := e = .returned (.bool b) ∧ Go.Ren.Ext w w'
set_option maxRecDepth 100000 in
set_option maxHeartbeats 4000000 in
theorem elemKinds_all (w : World) (m kind : Int) (hm : I64 m) : Calls Try.prog 9 #[.int .i64 m, .int .i64 kind] w (EKPost true w) := by
  obtain ⟨MX, hMX⟩ : ∃ M, M = max m 0 := ⟨_, rfl⟩
  obtain ⟨H, hH⟩ : ∃ H : Nat, (H : Int) = min MX 8 := ⟨(min MX 8).toNat, by omega⟩
  have hH8 : H ≤ 8 := by omega
  have m1 : ∀ ts ty w, (Builtin.max_ ts ty #[.int .i64 m, .int .i64 0]).run Try.prog w = .ok (.int .i64 MX) w := fun ts ty w => by rw [hMX]; exact run_maxI _ _ _ _ _
  have m2 : ∀ ts ty w, (Builtin.min_ ts ty #[.int .i64 MX, .int .i64 8]).run Try.prog w = .ok (.int .i64 (H : Int)) w := fun ts ty w => by rw [hH]; exact run_minI _ _ _ _ _
  have HEQ : Hid (((kindsP 8).take m.toNat == (kindsP 8).take H) = true) := Lib.hid (by
    rw [beq_iff_eq]
    by_cases h8 : m.toNat ≤ 8
    · rw [show m.toNat = H by omega]
    · rw [show H = 8 by omega, List.take_of_length_le (by rw [kindsP_len]; omega), List.take_of_length_le (by rw [kindsP_len]; omega)])
  have HI64 : Hid (∀ y ∈ kindsP 8, I64 y) := Lib.hid (fun y hy => by simp [kindsP] at hy; obtain ⟨j, hj, rfl⟩ := hy; unfold I64; omega)
  clear hMX hH
  go_enter Try.func9, Try.ntmps9
  go_wp2_with fail
  refine (elemfirst_any _).mono ?_
  rintro e w1 ⟨rfl, x1⟩
  go_wp2_with fail
  refine (elist_any _).mono ?_
  rintro e w2 ⟨vl, rfl, ol, x2, -⟩
  have os := ol.sl
  rw [List.length_map, kindsP_len] at os
  have l1 := os.run_len (P := Try.prog) II.und 3
  have HI := Lib.hid (os.run_idx (P := Try.prog) II.und II.size .i64)
  have sb := os.run_sub_hi (P := Try.prog) II.und II.size .i64 H hH8
  have HC := Lib.hid os.cell
  have HX0 := Lib.hid (x1.trans x2)
  have KO : Hid (∀ w', Ext w2 w' → Sl w' vl 1 8 ((kindsP 8).map iv)) := Lib.hid fun w' x => os.ext (by decide) x
  have KL : Hid (∀ w', Ext w2 w' → IntsAt w' (sub_ vl 0 H 1) ((kindsP 8).take H)) := Lib.hid fun w' x => ⟨by
    have h := (os.ext (by decide) x).sub 0 H (Nat.zero_le _) hH8
    have e : ((kindsP 8).take H).length = H - 0 := by rw [List.length_take, kindsP_len]; omega
    rw [e, List.map_take]
    simpa using h, fun y hy => HI64.out _ (List.mem_of_mem_take hy)⟩
  clear os ol x1 x2
  go_wp2_with fail
  go_loopw [6, 7] (fun s6 s wr => ∃ i : Nat, i ≤ 8 ∧ s = .int .i64 (i : Int) ∧ s6 = .bool (inK kind i) ∧ Ext w2 wr) (fun _ s _ => 8 - (intOf s).toNat)
  case atStart => exact ⟨0, Nat.zero_le _, rfl, by unfold inK; simp; omega, Mod.refl _ _⟩
  case round =>
    obtain ⟨i, hi, rfl, rfl, x⟩ := hrel
    have HX := Lib.hid x
    by_cases hlt : i < 8
    · have hlt' : (i : Int) < 8 := by omega
      obtain ⟨X, hX⟩ : ∃ X, X = (i : Int) + 1 := ⟨_, rfl⟩
      obtain ⟨A1, hA1⟩ : ∃ A, A = at_ vl i := ⟨_, rfl⟩
      have e1 : wr.cell? A1 = some (.int .i64 X) := by rw [hA1, hX]; exact (KO.out _ x).cell i _ (kindsP_get hlt)
      have i1 := HI.out i hlt
      simp only [Nat.mul_one] at i1
      rw [← hA1] at i1
      obtain ⟨SX, hSX⟩ : ∃ S, S = szK X := ⟨_, rfl⟩
      have t1 : ((SX : Int) == 0) = false := by have h1 := (szK_up hlt).1; rw [← hX, ← hSX] at h1; simpa using h1
      have HSX := Lib.hid hSX.symm
      have HXX := Lib.hid hX
      by_cases hi0 : i = 0
      · have g0 : ¬ 0 < (i : Int) := by omega
        have g1 : ¬ 0 < i := by omega
        have KG : Hid (∀ w', Ext wr w' → w'.cell? A1 = some (.int .i64 X)) := Lib.hid fun w' z => Ext.cell z e1
        clear hX hA1 hSX x hi0
        cases hb : inK kind i with
        | true =>
          have HN : Hid (inK kind (i + 1) = true) := Lib.hid (by unfold inK at hb ⊢; simp at hb ⊢; omega)
          clear hb
          go_upto_region 11 with fail
          clear e1
          refine wp_region_plan [(0, true), (1, true), (2, true), (3, true), (4, false), (5, true), (6, true), (7, true), (8, true), (9, true), (10, true), (11, true), (12, true), (13, true), (14, true), (15, true), (16, true), (17, true), (18, true), (19, true), (20, true), (21, true), (22, true), (23, true), (24, true), (26, true), (27, true), (28, true), (29, true), (30, true), (25, false), (31, false), (32, true), (33, true), (34, true), (35, true)] (fun w' => w'.cell? A1 = some (.int .i64 X)) (by kernel_rfl) (by kernel_rfl) (by kernel_rfl) (fun _ d _ _ _ h => by cases d <;> exact h) (KG.out _ (Mod.drew (Mod.refl _ _))) ?_
          simp only [planL, getO]
          iterate 4 (refine plan_take (v := ?_) (by rfl) (fun wS hS => ?_) ?_; rotate_left; (focus ((try dsimp only at hS); go_simp; (try with_reducible rfl); done)); (try simp only [Act.put, List.setIfInBounds_toArray, List.set_cons_zero, List.set_cons_succ]))
          refine plan_call (fun K hK => ?_)
          go_simp
          go_at_call 34; refine (size_any _ X).mono ?_; rintro en v1 ⟨rfl, rfl⟩; rw [HSX.out]
          refine hK.out _ _ (KG.out _ (Mod.drew (Mod.refl _ _))) ?_
          clear hK K
          (try simp only [Act.put, List.setIfInBounds_toArray, List.set_cons_zero, List.set_cons_succ])
          iterate 5 (refine plan_take (v := ?_) (by rfl) (fun wS hS => ?_) ?_; rotate_left; (focus ((try dsimp only at hS); go_simp; (try with_reducible rfl); done)); (try simp only [Act.put, List.setIfInBounds_toArray, List.set_cons_zero, List.set_cons_succ]))
          iterate 20 (refine plan_skip (by rfl) ?_; (try simp only [Act.put, List.setIfInBounds_toArray, List.set_cons_zero, List.set_cons_succ]))
          (refine plan_skip (by rfl) ?_; (try simp only [Act.put, List.setIfInBounds_toArray, List.set_cons_zero, List.set_cons_succ]))
          (refine plan_skip (by rfl) ?_; (try simp only [Act.put, List.setIfInBounds_toArray, List.set_cons_zero, List.set_cons_succ]))
          iterate 2 (refine plan_skip (by rfl) ?_; (try simp only [Act.put, List.setIfInBounds_toArray, List.set_cons_zero, List.set_cons_succ]))
          iterate 2 (refine plan_take (v := ?_) (by rfl) (fun wS hS => ?_) ?_; rotate_left; (focus ((try dsimp only at hS); go_simp; (try with_reducible rfl); done)); (try simp only [Act.put, List.setIfInBounds_toArray, List.set_cons_zero, List.set_cons_succ]))
          refine plan_nil ?_
          go_wp2_with fail
          go_roundw
          case rel => exact ⟨i + 1, by omega, by go_num, by rw [HN.out], HX.out.drew⟩
          case measure => simp [intOf]; omega
        | false =>
          cases hk : X == kind with
          | true =>
            have HN : Hid (inK kind (i + 1) = true) := Lib.hid (by have h1 := HXX.out; unfold inK; simp at hk ⊢; omega)
            clear hb
            go_upto_region 11 with fail
            clear e1
            refine wp_region_plan [(0, true), (1, true), (2, true), (3, true), (4, false), (5, true), (6, true), (7, true), (8, true), (9, true), (10, true), (11, true), (12, true), (13, true), (14, true), (15, true), (16, true), (17, true), (18, true), (19, true), (20, true), (21, true), (22, true), (23, true), (24, true), (26, true), (27, true), (28, true), (29, true), (30, true), (25, false), (31, false), (32, true), (33, true), (34, true), (35, true)] (fun w' => w'.cell? A1 = some (.int .i64 X)) (by kernel_rfl) (by kernel_rfl) (by kernel_rfl) (fun _ d _ _ _ h => by cases d <;> exact h) (KG.out _ (Mod.drew (Mod.refl _ _))) ?_
            simp only [planL, getO]
            iterate 4 (refine plan_take (v := ?_) (by rfl) (fun wS hS => ?_) ?_; rotate_left; (focus ((try dsimp only at hS); go_simp; (try with_reducible rfl); done)); (try simp only [Act.put, List.setIfInBounds_toArray, List.set_cons_zero, List.set_cons_succ]))
            refine plan_call (fun K hK => ?_)
            go_simp
            go_at_call 34; refine (size_any _ X).mono ?_; rintro en v1 ⟨rfl, rfl⟩; rw [HSX.out]
            refine hK.out _ _ (KG.out _ (Mod.drew (Mod.refl _ _))) ?_
            clear hK K
            (try simp only [Act.put, List.setIfInBounds_toArray, List.set_cons_zero, List.set_cons_succ])
            iterate 5 (refine plan_take (v := ?_) (by rfl) (fun wS hS => ?_) ?_; rotate_left; (focus ((try dsimp only at hS); go_simp; (try with_reducible rfl); done)); (try simp only [Act.put, List.setIfInBounds_toArray, List.set_cons_zero, List.set_cons_succ]))
            iterate 20 (refine plan_skip (by rfl) ?_; (try simp only [Act.put, List.setIfInBounds_toArray, List.set_cons_zero, List.set_cons_succ]))
            (refine plan_skip (by rfl) ?_; (try simp only [Act.put, List.setIfInBounds_toArray, List.set_cons_zero, List.set_cons_succ]))
            (refine plan_skip (by rfl) ?_; (try simp only [Act.put, List.setIfInBounds_toArray, List.set_cons_zero, List.set_cons_succ]))
            iterate 2 (refine plan_skip (by rfl) ?_; (try simp only [Act.put, List.setIfInBounds_toArray, List.set_cons_zero, List.set_cons_succ]))
            iterate 2 (refine plan_take (v := ?_) (by rfl) (fun wS hS => ?_) ?_; rotate_left; (focus ((try dsimp only at hS); go_simp; (try with_reducible rfl); done)); (try simp only [Act.put, List.setIfInBounds_toArray, List.set_cons_zero, List.set_cons_succ]))
            refine plan_nil ?_
            go_wp2_with fail
            go_roundw
            case rel => exact ⟨i + 1, by omega, by go_num, by rw [HN.out], HX.out.drew⟩
            case measure => simp [intOf]; omega
          | false =>
            have HN : Hid (inK kind (i + 1) = false) := Lib.hid (by have h1 := HXX.out; unfold inK at hb ⊢; simp at hk hb ⊢; omega)
            clear hb
            go_upto_region 11 with fail
            clear e1
            refine wp_region_plan [(0, true), (1, true), (2, true), (3, true), (4, false), (5, true), (6, true), (7, true), (8, true), (9, true), (10, true), (11, true), (12, true), (13, true), (14, true), (15, true), (16, true), (17, true), (18, true), (19, true), (20, true), (21, true), (22, true), (23, true), (24, true), (26, true), (27, true), (28, true), (29, true), (30, true), (25, false), (31, false), (32, true), (33, true), (34, true), (35, true)] (fun w' => w'.cell? A1 = some (.int .i64 X)) (by kernel_rfl) (by kernel_rfl) (by kernel_rfl) (fun _ d _ _ _ h => by cases d <;> exact h) (KG.out _ (Mod.drew (Mod.refl _ _))) ?_
            simp only [planL, getO]
            iterate 4 (refine plan_take (v := ?_) (by rfl) (fun wS hS => ?_) ?_; rotate_left; (focus ((try dsimp only at hS); go_simp; (try with_reducible rfl); done)); (try simp only [Act.put, List.setIfInBounds_toArray, List.set_cons_zero, List.set_cons_succ]))
            refine plan_call (fun K hK => ?_)
            go_simp
            go_at_call 34; refine (size_any _ X).mono ?_; rintro en v1 ⟨rfl, rfl⟩; rw [HSX.out]
            refine hK.out _ _ (KG.out _ (Mod.drew (Mod.refl _ _))) ?_
            clear hK K
            (try simp only [Act.put, List.setIfInBounds_toArray, List.set_cons_zero, List.set_cons_succ])
            iterate 5 (refine plan_take (v := ?_) (by rfl) (fun wS hS => ?_) ?_; rotate_left; (focus ((try dsimp only at hS); go_simp; (try with_reducible rfl); done)); (try simp only [Act.put, List.setIfInBounds_toArray, List.set_cons_zero, List.set_cons_succ]))
            iterate 20 (refine plan_skip (by rfl) ?_; (try simp only [Act.put, List.setIfInBounds_toArray, List.set_cons_zero, List.set_cons_succ]))
            (refine plan_skip (by rfl) ?_; (try simp only [Act.put, List.setIfInBounds_toArray, List.set_cons_zero, List.set_cons_succ]))
            (refine plan_skip (by rfl) ?_; (try simp only [Act.put, List.setIfInBounds_toArray, List.set_cons_zero, List.set_cons_succ]))
            iterate 2 (refine plan_skip (by rfl) ?_; (try simp only [Act.put, List.setIfInBounds_toArray, List.set_cons_zero, List.set_cons_succ]))
            iterate 2 (refine plan_take (v := ?_) (by rfl) (fun wS hS => ?_) ?_; rotate_left; (focus ((try dsimp only at hS); go_simp; (try with_reducible rfl); done)); (try simp only [Act.put, List.setIfInBounds_toArray, List.set_cons_zero, List.set_cons_succ]))
            refine plan_nil ?_
            go_wp2_with fail
            go_roundw
            case rel => exact ⟨i + 1, by omega, by go_num, by rw [HN.out], HX.out.drew⟩
            case measure => simp [intOf]; omega
      · have g0 : 0 < (i : Int) := by omega
        have g1 : 0 < i := by omega
        obtain ⟨A0, hA0⟩ : ∃ A, A = at_ vl (i - 1) := ⟨_, rfl⟩
        obtain ⟨Y, hY⟩ : ∃ X, X = (i : Int) := ⟨_, rfl⟩
        have e2 : wr.cell? A0 = some (.int .i64 Y) := by
          rw [hA0, hY]
          have h := (KO.out _ x).cell (i - 1) _ (kindsP_get (by omega))
          rw [show ((i - 1 : Nat) : Int) + 1 = (i : Int) by omega] at h
          exact h
        have i2 := HI.out (i - 1) (by omega)
        simp only [Nat.mul_one] at i2
        rw [← hA0, show ((i - 1 : Nat) : Int) = (i : Int) - 1 by omega] at i2
        obtain ⟨SY, hSY⟩ : ∃ S, S = szK Y := ⟨_, rfl⟩
        have t2 : ¬ (SX : Int) < (SY : Int) := by have h1 := (szK_up hlt).2 (by omega); rw [← hX, ← hSX, ← hY, ← hSY] at h1; omega
        have t3 : ¬ X ≤ Y := by omega
        have y1 : IntKind.i64.wrap ((i : Int) - 1) = (i : Int) - 1 := IntWalk.i64_in _ (by omega)
        have t4 : ¬ SX < SY := by omega
        have HSY := Lib.hid hSY.symm
        have KG : Hid (∀ w', Ext wr w' → w'.cell? A1 = some (.int .i64 X) ∧ w'.cell? A0 = some (.int .i64 Y)) := Lib.hid fun w' z => ⟨Ext.cell z e1, Ext.cell z e2⟩
        clear hX hA1 hSX hA0 hY hSY x hi0
        cases hb : inK kind i with
        | true =>
          have HN : Hid (inK kind (i + 1) = true) := Lib.hid (by unfold inK at hb ⊢; simp at hb ⊢; omega)
          clear hb
          go_upto_region 11 with fail
          clear e1 e2
          refine wp_region_plan [(0, true), (1, true), (2, true), (3, true), (4, false), (5, true), (6, true), (7, true), (8, true), (9, true), (10, true), (11, true), (12, true), (13, true), (14, true), (15, true), (16, true), (17, true), (18, true), (19, true), (20, true), (21, true), (22, true), (23, true), (24, true), (26, true), (27, true), (28, true), (29, true), (30, true), (25, false), (31, false), (32, true), (33, true), (34, true), (35, true)] (fun w' => w'.cell? A1 = some (.int .i64 X) ∧ w'.cell? A0 = some (.int .i64 Y)) (by kernel_rfl) (by kernel_rfl) (by kernel_rfl) (fun _ d _ _ _ h => by cases d <;> exact h) (KG.out _ (Mod.drew (Mod.refl _ _))) ?_
          simp only [planL, getO]
          iterate 4 (refine plan_take (v := ?_) (by rfl) (fun wS hS => ?_) ?_; rotate_left; (focus ((try dsimp only at hS); go_simp; (try with_reducible rfl); done)); (try simp only [Act.put, List.setIfInBounds_toArray, List.set_cons_zero, List.set_cons_succ]))
          refine plan_call (fun K hK => ?_)
          go_simp
          go_at_call 34; refine (size_any _ X).mono ?_; rintro en v1 ⟨rfl, rfl⟩; rw [HSX.out]
          refine hK.out _ _ (KG.out _ (Mod.drew (Mod.refl _ _))) ?_
          clear hK K
          (try simp only [Act.put, List.setIfInBounds_toArray, List.set_cons_zero, List.set_cons_succ])
          iterate 25 (refine plan_take (v := ?_) (by rfl) (fun wS hS => ?_) ?_; rotate_left; (focus ((try dsimp only at hS); go_simp; (try with_reducible rfl); done)); (try simp only [Act.put, List.setIfInBounds_toArray, List.set_cons_zero, List.set_cons_succ]))
          refine plan_call (fun K hK => ?_)
          go_simp
          go_at_call 34; refine (size_any _ X).mono ?_; rintro en v2 ⟨rfl, rfl⟩; rw [HSX.out]
          refine hK.out _ _ (KG.out _ (Mod.drew (Mod.refl _ _))) ?_
          clear hK K
          (try simp only [Act.put, List.setIfInBounds_toArray, List.set_cons_zero, List.set_cons_succ])
          refine plan_call (fun K hK => ?_)
          go_simp
          go_at_call 34; refine (size_any _ Y).mono ?_; rintro en v3 ⟨rfl, rfl⟩; rw [HSY.out]
          refine hK.out _ _ (KG.out _ (Mod.drew (Mod.refl _ _))) ?_
          clear hK K
          (try simp only [Act.put, List.setIfInBounds_toArray, List.set_cons_zero, List.set_cons_succ])
          iterate 4 (refine plan_take (v := ?_) (by rfl) (fun wS hS => ?_) ?_; rotate_left; (focus ((try dsimp only at hS); go_simp; (try with_reducible rfl); done)); (try simp only [Act.put, List.setIfInBounds_toArray, List.set_cons_zero, List.set_cons_succ]))
          refine plan_nil ?_
          go_wp2_with fail
          go_roundw
          case rel => exact ⟨i + 1, by omega, by go_num, by rw [HN.out], HX.out.drew⟩
          case measure => simp [intOf]; omega
        | false =>
          cases hk : X == kind with
          | true =>
            have HN : Hid (inK kind (i + 1) = true) := Lib.hid (by have h1 := HXX.out; unfold inK; simp at hk ⊢; omega)
            clear hb
            go_upto_region 11 with fail
            clear e1 e2
            refine wp_region_plan [(0, true), (1, true), (2, true), (3, true), (4, false), (5, true), (6, true), (7, true), (8, true), (9, true), (10, true), (11, true), (12, true), (13, true), (14, true), (15, true), (16, true), (17, true), (18, true), (19, true), (20, true), (21, true), (22, true), (23, true), (24, true), (26, true), (27, true), (28, true), (29, true), (30, true), (25, false), (31, false), (32, true), (33, true), (34, true), (35, true)] (fun w' => w'.cell? A1 = some (.int .i64 X) ∧ w'.cell? A0 = some (.int .i64 Y)) (by kernel_rfl) (by kernel_rfl) (by kernel_rfl) (fun _ d _ _ _ h => by cases d <;> exact h) (KG.out _ (Mod.drew (Mod.refl _ _))) ?_
            simp only [planL, getO]
            iterate 4 (refine plan_take (v := ?_) (by rfl) (fun wS hS => ?_) ?_; rotate_left; (focus ((try dsimp only at hS); go_simp; (try with_reducible rfl); done)); (try simp only [Act.put, List.setIfInBounds_toArray, List.set_cons_zero, List.set_cons_succ]))
            refine plan_call (fun K hK => ?_)
            go_simp
            go_at_call 34; refine (size_any _ X).mono ?_; rintro en v1 ⟨rfl, rfl⟩; rw [HSX.out]
            refine hK.out _ _ (KG.out _ (Mod.drew (Mod.refl _ _))) ?_
            clear hK K
            (try simp only [Act.put, List.setIfInBounds_toArray, List.set_cons_zero, List.set_cons_succ])
            iterate 25 (refine plan_take (v := ?_) (by rfl) (fun wS hS => ?_) ?_; rotate_left; (focus ((try dsimp only at hS); go_simp; (try with_reducible rfl); done)); (try simp only [Act.put, List.setIfInBounds_toArray, List.set_cons_zero, List.set_cons_succ]))
            refine plan_call (fun K hK => ?_)
            go_simp
            go_at_call 34; refine (size_any _ X).mono ?_; rintro en v2 ⟨rfl, rfl⟩; rw [HSX.out]
            refine hK.out _ _ (KG.out _ (Mod.drew (Mod.refl _ _))) ?_
            clear hK K
            (try simp only [Act.put, List.setIfInBounds_toArray, List.set_cons_zero, List.set_cons_succ])
            refine plan_call (fun K hK => ?_)
            go_simp
            go_at_call 34; refine (size_any _ Y).mono ?_; rintro en v3 ⟨rfl, rfl⟩; rw [HSY.out]
            refine hK.out _ _ (KG.out _ (Mod.drew (Mod.refl _ _))) ?_
            clear hK K
            (try simp only [Act.put, List.setIfInBounds_toArray, List.set_cons_zero, List.set_cons_succ])
            iterate 4 (refine plan_take (v := ?_) (by rfl) (fun wS hS => ?_) ?_; rotate_left; (focus ((try dsimp only at hS); go_simp; (try with_reducible rfl); done)); (try simp only [Act.put, List.setIfInBounds_toArray, List.set_cons_zero, List.set_cons_succ]))
            refine plan_nil ?_
            go_wp2_with fail
            go_roundw
            case rel => exact ⟨i + 1, by omega, by go_num, by rw [HN.out], HX.out.drew⟩
            case measure => simp [intOf]; omega
          | false =>
            have HN : Hid (inK kind (i + 1) = false) := Lib.hid (by have h1 := HXX.out; unfold inK at hb ⊢; simp at hk hb ⊢; omega)
            clear hb
            go_upto_region 11 with fail
            clear e1 e2
            refine wp_region_plan [(0, true), (1, true), (2, true), (3, true), (4, false), (5, true), (6, true), (7, true), (8, true), (9, true), (10, true), (11, true), (12, true), (13, true), (14, true), (15, true), (16, true), (17, true), (18, true), (19, true), (20, true), (21, true), (22, true), (23, true), (24, true), (26, true), (27, true), (28, true), (29, true), (30, true), (25, false), (31, false), (32, true), (33, true), (34, true), (35, true)] (fun w' => w'.cell? A1 = some (.int .i64 X) ∧ w'.cell? A0 = some (.int .i64 Y)) (by kernel_rfl) (by kernel_rfl) (by kernel_rfl) (fun _ d _ _ _ h => by cases d <;> exact h) (KG.out _ (Mod.drew (Mod.refl _ _))) ?_
            simp only [planL, getO]
            iterate 4 (refine plan_take (v := ?_) (by rfl) (fun wS hS => ?_) ?_; rotate_left; (focus ((try dsimp only at hS); go_simp; (try with_reducible rfl); done)); (try simp only [Act.put, List.setIfInBounds_toArray, List.set_cons_zero, List.set_cons_succ]))
            refine plan_call (fun K hK => ?_)
            go_simp
            go_at_call 34; refine (size_any _ X).mono ?_; rintro en v1 ⟨rfl, rfl⟩; rw [HSX.out]
            refine hK.out _ _ (KG.out _ (Mod.drew (Mod.refl _ _))) ?_
            clear hK K
            (try simp only [Act.put, List.setIfInBounds_toArray, List.set_cons_zero, List.set_cons_succ])
            iterate 25 (refine plan_take (v := ?_) (by rfl) (fun wS hS => ?_) ?_; rotate_left; (focus ((try dsimp only at hS); go_simp; (try with_reducible rfl); done)); (try simp only [Act.put, List.setIfInBounds_toArray, List.set_cons_zero, List.set_cons_succ]))
            refine plan_call (fun K hK => ?_)
            go_simp
            go_at_call 34; refine (size_any _ X).mono ?_; rintro en v2 ⟨rfl, rfl⟩; rw [HSX.out]
            refine hK.out _ _ (KG.out _ (Mod.drew (Mod.refl _ _))) ?_
            clear hK K
            (try simp only [Act.put, List.setIfInBounds_toArray, List.set_cons_zero, List.set_cons_succ])
            refine plan_call (fun K hK => ?_)
            go_simp
            go_at_call 34; refine (size_any _ Y).mono ?_; rintro en v3 ⟨rfl, rfl⟩; rw [HSY.out]
            refine hK.out _ _ (KG.out _ (Mod.drew (Mod.refl _ _))) ?_
            clear hK K
            (try simp only [Act.put, List.setIfInBounds_toArray, List.set_cons_zero, List.set_cons_succ])
            iterate 4 (refine plan_take (v := ?_) (by rfl) (fun wS hS => ?_) ?_; rotate_left; (focus ((try dsimp only at hS); go_simp; (try with_reducible rfl); done)); (try simp only [Act.put, List.setIfInBounds_toArray, List.set_cons_zero, List.set_cons_succ]))
            refine plan_nil ?_
            go_wp2_with fail
            go_roundw
            case rel => exact ⟨i + 1, by omega, by go_num, by rw [HN.out], HX.out.drew⟩
            case measure => simp [intOf]; omega
    · have hlt' : ¬ (i : Int) < 8 := by omega
      have h8 : i = 8 := by omega
      have HIN : Hid (inK kind i = decide (1 ≤ kind ∧ kind ≤ 8)) := Lib.hid (by rw [h8]; rfl)
      clear h8 x
      obtain ⟨SZ, hSZ⟩ : ∃ S, S = szK kind := ⟨_, rfl⟩
      by_cases hbig : kind = 7 ∨ kind = 8
      · have HSZ : Hid (szK kind = 8) := Lib.hid (by rcases hbig with rfl | rfl <;> rfl)
        have HBG : Hid ((kind == 7 || kind == 8) = true) := Lib.hid (by rcases hbig with rfl | rfl <;> rfl)
        rw [show inK kind i = true by rw [HIN.out]; simp; omega]
        clear hbig hSZ
        go_upto_region 13 with fail
        refine wp_region_plan [(0, false), (1, true), (2, true), (4, true), (5, true), (6, true), (7, true), (8, true), (3, false), (9, false), (10, true), (11, true), (12, true), (15, true), (13, false), (14, true), (16, true), (17, true), (18, true), (19, true), (20, false), (21, true), (22, true), (23, true), (24, false), (25, true), (26, true), (27, true), (28, true)] (fun _ => True) (by kernel_rfl) (by kernel_rfl) (by kernel_rfl) (fun _ d _ _ _ h => by cases d <;> exact h) (trivial) ?_
        simp only [planL, getO]
        refine plan_call (fun K hK => ?_)
        go_simp
        go_at_call 32; refine (elemfirst_any _).mono ?_; rintro en v1 ⟨rfl, u1⟩; have U1 : Ext w2 v1 := Mod.trans (Mod.drew HX.out) u1
        refine hK.out _ _ (trivial) ?_
        clear hK K
        (try simp only [Act.put, List.setIfInBounds_toArray, List.set_cons_zero, List.set_cons_succ])
        iterate 7 (refine plan_take (v := ?_) (by rfl) (fun wS hS => ?_) ?_; rotate_left; (focus ((try dsimp only at hS); go_simp; (try with_reducible rfl); done)); (try simp only [Act.put, List.setIfInBounds_toArray, List.set_cons_zero, List.set_cons_succ]))
        refine plan_call (fun K hK => ?_)
        go_simp
        go_at_call 35; refine (taken_any _ m hm).mono ?_; rintro en v2 ⟨vt, rfl, ot, u2, -⟩; have U2 : Ext w2 v2 := Mod.trans U1 u2; rw [List.length_map] at ot; have HOT := Lib.hid ot; clear ot
        refine hK.out _ _ (trivial) ?_
        clear hK K
        (try simp only [Act.put, List.setIfInBounds_toArray, List.set_cons_zero, List.set_cons_succ])
        refine plan_call (fun K hK => ?_)
        go_simp
        go_at_call 17; refine (ints_any _ _ _ ((kindsP 8).take m.toNat) ((kindsP 8).take H) ⟨HOT.out.sl, fun y hy => HI64.out _ (List.mem_of_mem_take hy)⟩ (KL.out _ U2)).mono ?_; rintro en v3 ⟨rfl, n3, hn3⟩; (have U3 : Ext w2 v3 := by (rw [hn3]; exact Mod.drewN U2 _)); rw [HEQ.out]; clear hn3
        refine hK.out _ _ (trivial) ?_
        clear hK K
        (try simp only [Act.put, List.setIfInBounds_toArray, List.set_cons_zero, List.set_cons_succ])
        iterate 4 (refine plan_take (v := ?_) (by rfl) (fun wS hS => ?_) ?_; rotate_left; (focus ((try dsimp only at hS); go_simp; (try with_reducible rfl); done)); (try simp only [Act.put, List.setIfInBounds_toArray, List.set_cons_zero, List.set_cons_succ]))
        refine plan_call (fun K hK => ?_)
        go_simp
        go_at_call 34; refine (size_any _ kind).mono ?_; rintro en v4 ⟨rfl, rfl⟩; rw [HSZ.out]
        refine hK.out _ _ (trivial) ?_
        clear hK K
        (try simp only [Act.put, List.setIfInBounds_toArray, List.set_cons_zero, List.set_cons_succ])
        iterate 5 (refine plan_take (v := ?_) (by rfl) (fun wS hS => ?_) ?_; rotate_left; (focus ((try dsimp only at hS); go_simp; (try with_reducible rfl); done)); (try simp only [Act.put, List.setIfInBounds_toArray, List.set_cons_zero, List.set_cons_succ]))
        refine plan_call (fun K hK => ?_)
        go_simp
        go_at_call 36; refine (isbig_any _ kind).mono ?_; rintro en v5 ⟨rfl, rfl⟩; rw [HBG.out]
        refine hK.out _ _ (trivial) ?_
        clear hK K
        (try simp only [Act.put, List.setIfInBounds_toArray, List.set_cons_zero, List.set_cons_succ])
        iterate 3 (refine plan_take (v := ?_) (by rfl) (fun wS hS => ?_) ?_; rotate_left; (focus ((try dsimp only at hS); go_simp; (try with_reducible rfl); done)); (try simp only [Act.put, List.setIfInBounds_toArray, List.set_cons_zero, List.set_cons_succ]))
        refine plan_call (fun K hK => ?_)
        go_simp
        go_at_call 34; refine (size_any _ kind).mono ?_; rintro en v6 ⟨rfl, rfl⟩; rw [HSZ.out]
        refine hK.out _ _ (trivial) ?_
        clear hK K
        (try simp only [Act.put, List.setIfInBounds_toArray, List.set_cons_zero, List.set_cons_succ])
        iterate 4 (refine plan_take (v := ?_) (by rfl) (fun wS hS => ?_) ?_; rotate_left; (focus ((try dsimp only at hS); go_simp; (try with_reducible rfl); done)); (try simp only [Act.put, List.setIfInBounds_toArray, List.set_cons_zero, List.set_cons_succ]))
        refine plan_nil ?_
        go_wp2_with fail
        go_ret
        exact ⟨rfl, HX0.out.trans U3⟩
      · have HBG : Hid ((kind == 7 || kind == 8) = false) := Lib.hid (by simp; omega)
        have HSZ := Lib.hid hSZ.symm
        by_cases hin : 1 ≤ kind ∧ kind ≤ 8
        · have t1 : 0 < (SZ : Int) := by
            have h1 : ¬ szK kind = 0 := fun e => by have := (szK_zero kind).1 e; omega
            omega
          have t2 : 0 < SZ := by omega
          rw [show inK kind i = true by rw [HIN.out]; simp; omega]
          clear hbig hin hSZ
          go_upto_region 13 with fail
          refine wp_region_plan [(0, false), (1, true), (2, true), (4, true), (5, true), (6, true), (7, true), (8, true), (3, false), (9, false), (10, true), (11, true), (12, true), (15, true), (13, false), (14, true), (16, true), (17, true), (18, true), (19, true), (20, false), (21, true), (22, true), (23, true), (24, false), (25, true), (26, true), (27, true), (28, true)] (fun _ => True) (by kernel_rfl) (by kernel_rfl) (by kernel_rfl) (fun _ d _ _ _ h => by cases d <;> exact h) (trivial) ?_
          simp only [planL, getO]
          refine plan_call (fun K hK => ?_)
          go_simp
          go_at_call 32; refine (elemfirst_any _).mono ?_; rintro en v1 ⟨rfl, u1⟩; have U1 : Ext w2 v1 := Mod.trans (Mod.drew HX.out) u1
          refine hK.out _ _ (trivial) ?_
          clear hK K
          (try simp only [Act.put, List.setIfInBounds_toArray, List.set_cons_zero, List.set_cons_succ])
          iterate 7 (refine plan_take (v := ?_) (by rfl) (fun wS hS => ?_) ?_; rotate_left; (focus ((try dsimp only at hS); go_simp; (try with_reducible rfl); done)); (try simp only [Act.put, List.setIfInBounds_toArray, List.set_cons_zero, List.set_cons_succ]))
          refine plan_call (fun K hK => ?_)
          go_simp
          go_at_call 35; refine (taken_any _ m hm).mono ?_; rintro en v2 ⟨vt, rfl, ot, u2, -⟩; have U2 : Ext w2 v2 := Mod.trans U1 u2; rw [List.length_map] at ot; have HOT := Lib.hid ot; clear ot
          refine hK.out _ _ (trivial) ?_
          clear hK K
          (try simp only [Act.put, List.setIfInBounds_toArray, List.set_cons_zero, List.set_cons_succ])
          refine plan_call (fun K hK => ?_)
          go_simp
          go_at_call 17; refine (ints_any _ _ _ ((kindsP 8).take m.toNat) ((kindsP 8).take H) ⟨HOT.out.sl, fun y hy => HI64.out _ (List.mem_of_mem_take hy)⟩ (KL.out _ U2)).mono ?_; rintro en v3 ⟨rfl, n3, hn3⟩; (have U3 : Ext w2 v3 := by (rw [hn3]; exact Mod.drewN U2 _)); rw [HEQ.out]; clear hn3
          refine hK.out _ _ (trivial) ?_
          clear hK K
          (try simp only [Act.put, List.setIfInBounds_toArray, List.set_cons_zero, List.set_cons_succ])
          iterate 4 (refine plan_take (v := ?_) (by rfl) (fun wS hS => ?_) ?_; rotate_left; (focus ((try dsimp only at hS); go_simp; (try with_reducible rfl); done)); (try simp only [Act.put, List.setIfInBounds_toArray, List.set_cons_zero, List.set_cons_succ]))
          refine plan_call (fun K hK => ?_)
          go_simp
          go_at_call 34; refine (size_any _ kind).mono ?_; rintro en v4 ⟨rfl, rfl⟩; rw [HSZ.out]
          refine hK.out _ _ (trivial) ?_
          clear hK K
          (try simp only [Act.put, List.setIfInBounds_toArray, List.set_cons_zero, List.set_cons_succ])
          iterate 5 (refine plan_take (v := ?_) (by rfl) (fun wS hS => ?_) ?_; rotate_left; (focus ((try dsimp only at hS); go_simp; (try with_reducible rfl); done)); (try simp only [Act.put, List.setIfInBounds_toArray, List.set_cons_zero, List.set_cons_succ]))
          refine plan_call (fun K hK => ?_)
          go_simp
          go_at_call 36; refine (isbig_any _ kind).mono ?_; rintro en v5 ⟨rfl, rfl⟩; rw [HBG.out]
          refine hK.out _ _ (trivial) ?_
          clear hK K
          (try simp only [Act.put, List.setIfInBounds_toArray, List.set_cons_zero, List.set_cons_succ])
          iterate 2 (refine plan_take (v := ?_) (by rfl) (fun wS hS => ?_) ?_; rotate_left; (focus ((try dsimp only at hS); go_simp; (try with_reducible rfl); done)); (try simp only [Act.put, List.setIfInBounds_toArray, List.set_cons_zero, List.set_cons_succ]))
          (refine plan_skip (by rfl) ?_; (try simp only [Act.put, List.setIfInBounds_toArray, List.set_cons_zero, List.set_cons_succ]))
          (refine plan_skip (by rfl) ?_; (try simp only [Act.put, List.setIfInBounds_toArray, List.set_cons_zero, List.set_cons_succ]))
          (refine plan_skip (by rfl) ?_; (try simp only [Act.put, List.setIfInBounds_toArray, List.set_cons_zero, List.set_cons_succ]))
          iterate 3 (refine plan_take (v := ?_) (by rfl) (fun wS hS => ?_) ?_; rotate_left; (focus ((try dsimp only at hS); go_simp; (try with_reducible rfl); done)); (try simp only [Act.put, List.setIfInBounds_toArray, List.set_cons_zero, List.set_cons_succ]))
          refine plan_nil ?_
          go_wp2_with fail
          go_ret
          exact ⟨rfl, HX0.out.trans U3⟩
        · have t1 : ¬ 0 < (SZ : Int) := by
            have h1 : szK kind = 0 := (szK_zero kind).2 (by omega)
            omega
          have t2 : ¬ 0 < SZ := by omega
          rw [show inK kind i = false by rw [HIN.out]; simp; omega]
          clear hbig hin hSZ
          go_upto_region 13 with fail
          refine wp_region_plan [(0, false), (1, true), (2, true), (4, true), (5, true), (6, true), (7, true), (8, true), (3, false), (9, false), (10, true), (11, true), (12, true), (15, true), (13, false), (14, true), (16, true), (17, true), (18, true), (19, true), (20, false), (21, true), (22, true), (23, true), (24, false), (25, true), (26, true), (27, true), (28, true)] (fun _ => True) (by kernel_rfl) (by kernel_rfl) (by kernel_rfl) (fun _ d _ _ _ h => by cases d <;> exact h) (trivial) ?_
          simp only [planL, getO]
          refine plan_call (fun K hK => ?_)
          go_simp
          go_at_call 32; refine (elemfirst_any _).mono ?_; rintro en v1 ⟨rfl, u1⟩; have U1 : Ext w2 v1 := Mod.trans (Mod.drew HX.out) u1
          refine hK.out _ _ (trivial) ?_
          clear hK K
          (try simp only [Act.put, List.setIfInBounds_toArray, List.set_cons_zero, List.set_cons_succ])
          iterate 7 (refine plan_take (v := ?_) (by rfl) (fun wS hS => ?_) ?_; rotate_left; (focus ((try dsimp only at hS); go_simp; (try with_reducible rfl); done)); (try simp only [Act.put, List.setIfInBounds_toArray, List.set_cons_zero, List.set_cons_succ]))
          refine plan_call (fun K hK => ?_)
          go_simp
          go_at_call 35; refine (taken_any _ m hm).mono ?_; rintro en v2 ⟨vt, rfl, ot, u2, -⟩; have U2 : Ext w2 v2 := Mod.trans U1 u2; rw [List.length_map] at ot; have HOT := Lib.hid ot; clear ot
          refine hK.out _ _ (trivial) ?_
          clear hK K
          (try simp only [Act.put, List.setIfInBounds_toArray, List.set_cons_zero, List.set_cons_succ])
          refine plan_call (fun K hK => ?_)
          go_simp
          go_at_call 17; refine (ints_any _ _ _ ((kindsP 8).take m.toNat) ((kindsP 8).take H) ⟨HOT.out.sl, fun y hy => HI64.out _ (List.mem_of_mem_take hy)⟩ (KL.out _ U2)).mono ?_; rintro en v3 ⟨rfl, n3, hn3⟩; (have U3 : Ext w2 v3 := by (rw [hn3]; exact Mod.drewN U2 _)); rw [HEQ.out]; clear hn3
          refine hK.out _ _ (trivial) ?_
          clear hK K
          (try simp only [Act.put, List.setIfInBounds_toArray, List.set_cons_zero, List.set_cons_succ])
          iterate 4 (refine plan_take (v := ?_) (by rfl) (fun wS hS => ?_) ?_; rotate_left; (focus ((try dsimp only at hS); go_simp; (try with_reducible rfl); done)); (try simp only [Act.put, List.setIfInBounds_toArray, List.set_cons_zero, List.set_cons_succ]))
          refine plan_call (fun K hK => ?_)
          go_simp
          go_at_call 34; refine (size_any _ kind).mono ?_; rintro en v4 ⟨rfl, rfl⟩; rw [HSZ.out]
          refine hK.out _ _ (trivial) ?_
          clear hK K
          (try simp only [Act.put, List.setIfInBounds_toArray, List.set_cons_zero, List.set_cons_succ])
          iterate 5 (refine plan_take (v := ?_) (by rfl) (fun wS hS => ?_) ?_; rotate_left; (focus ((try dsimp only at hS); go_simp; (try with_reducible rfl); done)); (try simp only [Act.put, List.setIfInBounds_toArray, List.set_cons_zero, List.set_cons_succ]))
          refine plan_call (fun K hK => ?_)
          go_simp
          go_at_call 36; refine (isbig_any _ kind).mono ?_; rintro en v5 ⟨rfl, rfl⟩; rw [HBG.out]
          refine hK.out _ _ (trivial) ?_
          clear hK K
          (try simp only [Act.put, List.setIfInBounds_toArray, List.set_cons_zero, List.set_cons_succ])
          iterate 2 (refine plan_take (v := ?_) (by rfl) (fun wS hS => ?_) ?_; rotate_left; (focus ((try dsimp only at hS); go_simp; (try with_reducible rfl); done)); (try simp only [Act.put, List.setIfInBounds_toArray, List.set_cons_zero, List.set_cons_succ]))
          (refine plan_skip (by rfl) ?_; (try simp only [Act.put, List.setIfInBounds_toArray, List.set_cons_zero, List.set_cons_succ]))
          (refine plan_skip (by rfl) ?_; (try simp only [Act.put, List.setIfInBounds_toArray, List.set_cons_zero, List.set_cons_succ]))
          (refine plan_skip (by rfl) ?_; (try simp only [Act.put, List.setIfInBounds_toArray, List.set_cons_zero, List.set_cons_succ]))
          iterate 3 (refine plan_take (v := ?_) (by rfl) (fun wS hS => ?_) ?_; rotate_left; (focus ((try dsimp only at hS); go_simp; (try with_reducible rfl); done)); (try simp only [Act.put, List.setIfInBounds_toArray, List.set_cons_zero, List.set_cons_succ]))
          refine plan_nil ?_
          go_wp2_with fail
          go_ret
          exact ⟨rfl, HX0.out.trans U3⟩
end Go.Proofs.Ytnnciakdeoopaaa
