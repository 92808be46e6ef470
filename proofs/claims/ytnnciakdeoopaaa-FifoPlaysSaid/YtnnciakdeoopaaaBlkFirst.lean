/-
  What the chapter's examples of the blocks fix: the examples' function answers true. No condition.
-/
import Derived.Test.YtnnciakdeoopaaaBase
import Derived.Test.YtnnciakdeoopaaaBlkWrite
namespace Go.Proofs.Ytnnciakdeoopaaa
open Go.Ren Go.RowKit

/-- A list of bytes that a literal has just made. -/
theorem lit_bytes {w : World} {g n : Nat} {cs : Array Value} {l : List UInt8} (h : w.heap[g]? = some (.cells cs 5 (0, 0))) (hc : cs.toList = l.map bv) (hl : l.length = n) (hn : n ≤ 1000000) : BytesAt w (.slice (some ⟨g, 0, none⟩) n n) l := by
  subst hl
  have := built_sl (sz := 1) (n := l.length) h (by rw [← Array.length_toList, hc]; simp) (by simp only [maxLen]; omega)
  rw [hc] at this; exact this
theorem lit_ints {w : World} {g n : Nat} {cs : Array Value} {l : List Int} (h : w.heap[g]? = some (.cells cs 3 (0, 0))) (hc : cs.toList = l.map iv) (hl : l.length = n) (hn : n ≤ 1000000) (ho : ∀ x ∈ l, I64 x) : IntsAt w (.slice (some ⟨g, 0, none⟩) n n) l := by
  subst hl
  have := built_sl (sz := 1) (n := l.length) h (by rw [← Array.length_toList, hc]; simp) (by simp only [maxLen]; omega)
  rw [hc] at this; exact ⟨this, ho⟩
theorem i64_of {l : List Int} (h : l.all (fun x => decide (-9223372036854775808 ≤ x) && decide (x ≤ 9223372036854775807)) = true) : ∀ x ∈ l, I64 x := by
  intro x hx
  have := List.all_eq_true.1 h x hx
  simp at this; exact this

set_option maxRecDepth 100000 in
theorem first18_any (w : World) : Calls Try.prog 18 #[] w fun e w' => e = .returned (.bool true) ∧ Ext w w' := by
  obtain ⟨m1, h1⟩ : ∃ m, m = bmake [] 4 := ⟨_, rfl⟩
  obtain ⟨m2, h2⟩ : ∃ m, m = bwrite m1 0 1 [7, 8] 5 := ⟨_, rfl⟩
  have q1 : bmakeN [] 4 = 0 := by decide
  have q2 : bmakeE [] 4 = 0 := by decide
  have q3 : bcheck m1 0 1 2 = 0 := by subst h1; decide
  have q4 : bcheck m2 0 0 4 = 0 := by subst h2; subst h1; decide
  have q5 : bcheck m2 0 3 2 = 1 := by subst h2; subst h1; decide
  have q6 : (breadB m2 0 0 4 == [0, 7, 8, 0]) = true := by subst h2; subst h1; decide
  have q7 : (breadY m2 0 0 4 == [-1, 5, 5, -1]) = true := by subst h2; subst h1; decide
  have q8 : ∀ x ∈ breadY m2 0 0 4, I64 x := by subst h2; subst h1; exact i64_of (by decide)
  have H1 := Lib.hid h1; have H2 := Lib.hid h2; clear h1 h2
  go_enter Try.func18, Try.ntmps18
  go_wp2_with fail
  refine (new_any _).mono ?_
  rintro e w1 ⟨pb, S1, rfl, B1, x1, f1⟩
  go_wp2_with fail
  refine (make_any _ _ _ _ B1 _).mono ?_
  rintro e w2 ⟨rfl, S2, B2, x2, f2⟩
  rw [← H1.out] at B2
  go_wp2_with fail
  refine (write_any _ _ _ _ (B2.ext ((Mod.refl _ _).alloc _)) _ _ _ [7, 8] (lit_bytes (n := 2) (heap_alloc_new _ _) rfl rfl (by omega)) (by decide) _ ⟨by decide, by decide⟩).mono ?_
  rintro e w3 ⟨rfl, B3, x3⟩
  rw [← H2.out] at B3
  go_wp2_with fail
  refine (read_any _ _ _ _ B3 _ _ _).mono ?_
  rintro e w4 ⟨v, y, rfl, ov, oy, x4, fv, fy⟩
  have bb : BytesAt w4 v (breadB m2 0 0 4) := ov.sl
  have ii : IntsAt w4 y (breadY m2 0 0 4) := ⟨oy.sl, q8⟩
  go_wp2_with fail
  refine (bytes_any _ _ _ _ [0, 7, 8, 0] (bb.ext ((Mod.refl _ _).alloc _)) (lit_bytes (n := 4) (heap_alloc_new _ _) rfl rfl (by omega))).mono ?_
  rintro e w5 ⟨rfl, rfl⟩
  go_wp2_with fail
  refine (ints_any _ _ _ _ [-1, 5, 5, -1] (ii.ext (((Mod.refl _ _).alloc _).alloc _)) (lit_ints (n := 4) (by simp only [heap_alloc_if, World.size_alloc, ↓reduceIte]; rfl) rfl rfl (by omega) (i64_of (by decide)))).mono ?_
  rintro e w6 ⟨rfl, n6, rfl⟩
  go_wp2_with fail
  refine (write_any _ _ _ _ (B3.ext (x4.trans (by repeat (first | exact Mod.refl _ _ | apply Mod.drewN | apply Mod.alloc)))) _ _ _ [1, 1] (lit_bytes (n := 2) (by simp only [heap_alloc_if, World.size_alloc, World.heap_drewN, ↓reduceIte]; rfl) rfl rfl (by omega)) (by decide) _ ⟨by decide, by decide⟩).mono ?_
  rintro e w7 ⟨rfl, B7, x7⟩
  go_wp2_with fail
  go_ret
  have g1 : ∀ k, S1 k → NoF k ∨ w.heap.size ≤ k := fun k h => .inr (f1 k h)
  have g2 : ∀ k, S2 k → NoF k ∨ w.heap.size ≤ k := fun k h => (f2 k h).elim (g1 k) (fun h => .inr (Nat.le_trans x1.size h))
  exact ⟨rfl, (((((((x1.trans' x2 g1).alloc _).trans' x3 g2).trans x4).alloc _).alloc _).drewN _).alloc _ |>.trans' x7 g2⟩
end Go.Proofs.Ytnnciakdeoopaaa
