/-
  renlaw19.first and renlaw19.filled. No condition.
-/
import Derived.Test.YtnnciakdeoopaaaBase
import Derived.Test.YtnnciakdeoopaaaFifoPut
import Derived.Test.YtnnciakdeoopaaaFifoOver
import Derived.Test.YtnnciakdeoopaaaBlkFirst
namespace Go.Proofs.Ytnnciakdeoopaaa
open Go.Ren Go.RowKit
set_option linter.unusedVariables false

set_option maxRecDepth 100000 in
theorem first19_any (w : World) : Calls Try.prog 13 #[] w fun e w' => e = .returned (.bool true) ∧ Ext w w' := by
  obtain ⟨E1, h1⟩ : ∃ E, E = qput 2 [] ⟨0, 0, [1, 2], 5, false⟩ := ⟨_, rfl⟩
  obtain ⟨E2, h2⟩ : ∃ E, E = qput 2 E1 ⟨0, 1, [9], 6, false⟩ := ⟨_, rfl⟩
  have q1 : qputE 2 [] ⟨0, 0, [1, 2], 5, false⟩ = 0 := by decide
  have q2 : qputE 2 E1 ⟨0, 1, [9], 6, false⟩ = 0 := by subst h1; decide
  have q3 : qputE 2 E2 ⟨0, 0, [1], 0, false⟩ = 11 := by subst h2; subst h1; decide
  have q4 : (qoverB E2 0 0 [0, 0, 0] [-1, -1, -1] == [1, 9, 0]) = true := by subst h2; subst h1; decide
  have q5 : (qoverY E2 0 0 [0, 0, 0] [-1, -1, -1] == [5, 6, -1]) = true := by subst h2; subst h1; decide
  have q6 : ∀ x ∈ qoverY E2 0 0 [0, 0, 0] [-1, -1, -1], I64 x := by subst h2; subst h1; exact i64_of (by decide)
  have H1 := Lib.hid h1; have H2 := Lib.hid h2; clear h1 h2
  go_enter Try.func13, Try.ntmps13
  go_wp2_with fail
  refine (qnew_any _ _).mono ?_
  rintro e w1 ⟨h, -⟩
  obtain ⟨pq, S1, rfl, Q1, x1, f1⟩ := h (by decide)
  clear h
  change QueueAt w1 _ 2 [] S1 at Q1
  go_wp2_with fail
  refine (qput_any _ _ _ _ _ (Q1.ext ((Mod.refl _ _).alloc _)) ⟨0, 0, [1, 2], 5, false⟩ _ (lit_bytes (n := 2) (heap_alloc_new _ _) rfl rfl (by omega)) ⟨⟨by decide, by decide⟩, ⟨by decide, by decide⟩⟩).mono ?_
  rintro e w2 ⟨rfl, S2, Q2, x2, f2⟩
  rw [← H1.out] at Q2
  have g1 : ∀ k, S1 k → NoF k ∨ w.heap.size ≤ k := fun k h => .inr (f1 k h)
  have X2 : Ext w w2 := (x1.alloc _).trans' x2 g1
  have g2 : ∀ k, S2 k → NoF k ∨ w.heap.size ≤ k := fun k h => (f2 k h).elim (g1 k) (fun h => .inr (by simp only [World.size_alloc] at h; have := x1.size; omega))
  rw [q1]
  clear x1 f1 Q1 x2 f2
  go_wp2_with fail
  refine (qput_any _ _ _ _ _ (Q2.ext ((Mod.refl _ _).alloc _)) ⟨0, 1, [9], 6, false⟩ _ (lit_bytes (n := 1) (heap_alloc_new _ _) rfl rfl (by omega)) ⟨⟨by decide, by decide⟩, ⟨by decide, by decide⟩⟩).mono ?_
  rintro e w3 ⟨rfl, S3, Q3, x3, f3⟩
  rw [← H2.out] at Q3
  have X3 : Ext w w3 := (X2.alloc _).trans' x3 g2
  have g3 : ∀ k, S3 k → NoF k ∨ w.heap.size ≤ k := fun k h => (f3 k h).elim (g2 k) (fun h => .inr (by simp only [World.size_alloc] at h; have := X2.size; omega))
  rw [q2]
  clear x3 f3 Q2 X2
  go_wp2_with fail
  refine (qover_any _ _ _ _ _ (Q3.ext (((Mod.refl _ _).alloc _).alloc _)) _ _ ⟨by decide, by decide⟩ _ _ [0, 0, 0] [-1, -1, -1] (lit_bytes (n := 3) (heap_alloc2_old _ _ _) rfl rfl (by omega)) (lit_ints (n := 3) (heap_alloc2_new _ _ _) rfl rfl (by omega) (i64_of (by decide))) (by decide) (by decide)).mono ?_
  rintro e w4 ⟨v, u, rfl, ov, ou, x4, -, -⟩
  have X4 : Ext w w4 := ((X3.alloc _).alloc _).trans x4
  have Q4 : QueueAt w4 (.pointer (some ⟨pq, 0, none⟩)) 2 E2 S3 := Q3.ext ((((Mod.refl _ _).alloc _).alloc _).trans x4)
  have bb : BytesAt w4 v (qoverB E2 0 0 [0, 0, 0] [-1, -1, -1]) := ov.sl
  have ii : IntsAt w4 u (qoverY E2 0 0 [0, 0, 0] [-1, -1, -1]) := ⟨ou.sl, q6⟩
  clear X3 Q3 ov ou x4
  go_wp2_with fail
  refine (bytes_any _ _ _ _ [1, 9, 0] (bb.ext ((Mod.refl _ _).alloc _)) (lit_bytes (n := 3) (heap_alloc_new _ _) rfl rfl (by omega))).mono ?_
  rintro e w5 ⟨rfl, rfl⟩
  go_wp2_with fail
  refine (ints_any _ _ _ _ [5, 6, -1] (ii.ext (((Mod.refl _ _).alloc _).alloc _)) (lit_ints (n := 3) (by simp only [heap_alloc_if, World.size_alloc, ↓reduceIte]; rfl) rfl rfl (by omega) (i64_of (by decide)))).mono ?_
  rintro e w6 ⟨rfl, n6, rfl⟩
  go_wp2_with fail
  refine (qput_any _ _ _ _ _ (Q4.ext (by repeat (first | exact Mod.refl _ _ | apply Mod.drewN | apply Mod.alloc))) ⟨0, 0, [1], 0, false⟩ _ (lit_bytes (n := 1) (by simp only [heap_alloc_if, World.size_alloc, World.heap_drewN, ↓reduceIte]; rfl) rfl rfl (by omega)) ⟨⟨by decide, by decide⟩, ⟨by decide, by decide⟩⟩).mono ?_
  rintro e w7 ⟨rfl, S7, -, x7, -⟩
  rw [q3]
  go_wp2_with fail
  go_ret
  exact ⟨rfl, (by repeat (first | exact X4 | apply Mod.drewN | apply Mod.alloc) : Ext w _).trans' x7 g3⟩
end Go.Proofs.Ytnnciakdeoopaaa
