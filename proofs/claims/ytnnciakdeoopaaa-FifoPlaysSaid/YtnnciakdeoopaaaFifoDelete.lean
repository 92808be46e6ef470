/-
  The contract of slices.Delete(l, 0, 1) on a buffer's entries. No condition.
-/
import Derived.Test.YtnnciakdeoopaaaFifoAt
import Derived.Test.YtnnciakdeoopaaaDelLaw
import Derived.Deep.RegionLaw
import Derived.RegionTactic
namespace Go.Ren
open Go.RowKit
set_option linter.unusedVariables false
theorem Own.shrink {w : World} {e sz g n cap k : Nat} {xs : List Value} (h : Own w e sz (.slice (some ⟨g, 0, none⟩) n cap) n xs) (hn : 0 < n) (hk : k ≤ n) : Own w e sz (.slice (some ⟨g, 0, none⟩) k cap) k (xs.take (k * sz)) := by
  have hkn : k * sz ≤ n * sz := Nat.mul_le_mul_right _ hk
  have hx : xs.length = n * sz := h.1
  refine ⟨by rw [List.length_take]; omega, ?_⟩
  rcases h.2 with ⟨h1, h2⟩ | ⟨g', cap', cur, h1, h3, h4, h5, h6, h7, h8⟩
  · cases h1
  · injection h1 with h1 _ h9
    injection h1 with h1
    injection h1 with h1
    subst h1; subst h9
    exact .inr ⟨g, cap, cur, rfl, h3, h4, Nat.le_trans hk h5, h6, h7, by rw [← h8, List.take_take, Nat.min_eq_left hkn]⟩
theorem run_clear_one {P : Program} (w : World) (t e ty : TypeId) (z : Value) (ht : P.underlying t = some (.slice e)) (hv : ∀ w, (zeroValue e).run P w = .ok z w) (vs : List Value) (hz : (Builtin.zeroCells z.cells 1).toList = vs) (h1 : ∀ u ∈ vs, u.oneCell' = true) (b o c : Nat)
    (hc : ∀ j, j < vs.length → (w.cell? ⟨b, o + j, none⟩).isSome = true) (hf : ∀ j, j < vs.length → w.frozen? ⟨b, o + j, none⟩ = false) :
    (Builtin.clear_ #[t] ty #[.slice (some ⟨b, o, none⟩) 1 c]).run P w = .ok (.tuple #[]) (w.setCells b o vs) := by
  have hst := run_storeCells_cells (P := P) b o vs 0 w (by simpa using hc) (by simpa using hf) h1
  simp only [Nat.add_zero] at hst
  simp [Builtin.clear_, run_underlying ht, hv, hz, hst]
end Go.Ren
namespace Go.Proofs.Ytnnciakdeoopaaa
open Go.Ren Go.RowKit
set_option linter.unusedVariables false

def zero5 : List Value := [.int .i64 0, .int .i64 0, .slice none 0 0, .int .i64 0, .bool false]

theorem zero5_is : (Builtin.zeroCells (Value.agg #[.int .i64 0, .int .i64 0, .slice none 0 0, .int .i64 0, .bool false]).cells 1).toList = zero5 := by
  unfold Builtin.zeroCells Value.cells zero5
  apply List.ext_getElem
  · simp
  · intro i h1 h2
    simp at h2
    match i, h2 with
    | 0, _ => simp
    | 1, _ => simp
    | 2, _ => simp
    | 3, _ => simp
    | 4, _ => simp
set_option maxRecDepth 100000 in
set_option maxHeartbeats 800000 in
theorem delete_any (w : World) (g n cap : Nat) (xs : List Value) (h : Own w 65 5 (.slice (some ⟨g, 0, none⟩) (n + 1) cap) (n + 1) xs) (h1 : ∀ u ∈ xs, u.oneCell' = true) (hc : n + 1 ≤ cap) (hm : cap ≤ maxLen) :
    Calls Try.prog 62 #[.slice (some ⟨g, 0, none⟩) (n + 1) cap, .int .i64 0, .int .i64 1] w fun e w' => e = .returned (.slice (some ⟨g, 0, none⟩) n cap) ∧
      Own w' 65 5 (.slice (some ⟨g, 0, none⟩) n cap) n (xs.drop 5) ∧ Mod (fun q => q = g) w w' := by
  have hm' : cap ≤ 9223372036854775807 := by simpa only [maxLen] using hm
  have hx : xs.length = (n + 1) * 5 := h.1
  obtain ⟨i0, hi0, hz0, hz1, hz2⟩ := info_parts IE.info
  have und := IE.und
  go_enter Try.func62, Try.ntmps62
  go_wp2_with fail
  have hcl : ∀ j, j < (n + 1) * 5 → w.cell? ⟨g, j, none⟩ = xs[j]? := fun j hj => by
    have := h.sl.cell j _ (List.getElem?_eq_getElem (by omega))
    rw [at_own] at this
    rw [this, List.getElem?_eq_getElem (by omega)]
  have hfz : ∀ j, j < (n + 1) * 5 → w.frozen? ⟨g, j, none⟩ = false := fun j hj => by
    have := h.frozen j (by omega)
    rwa [at_own] at this
  obtain ⟨A, hA, hsrc⟩ : ∃ A : Addr, (if cap = 1 then some (⟨g, 0, none⟩ : Addr) else some ⟨g, 5, none⟩) = some A ∧ Hid (∀ t u, (xs.drop 5)[t]? = some u → w.drew.cell? (A.add t) = some u) := by
    by_cases hc1 : cap = 1
    · refine ⟨⟨g, 0, none⟩, by rw [if_pos hc1], Lib.hid fun t u hu => ?_⟩
      rw [List.getElem?_drop, List.getElem?_eq_none (by omega)] at hu; cases hu
    · refine ⟨⟨g, 5, none⟩, by rw [if_neg hc1], Lib.hid fun t u hu => ?_⟩
      rw [List.getElem?_drop] at hu
      have ht : 5 + t < (n + 1) * 5 := by
        rcases Nat.lt_or_ge (5 + t) ((n + 1) * 5) with h | h
        · exact h
        · rw [List.getElem?_eq_none (by omega)] at hu; cases hu
      rw [Addr.add_lit]
      exact (hcl (5 + t) ht).trans hu
  have hsp := Lib.hid (show ∀ j, j < (xs.drop 5).length → (w.drew.cell? ⟨g, 0 + 0 * 5 + j, none⟩).isSome = true ∧ w.drew.frozen? ⟨g, 0 + 0 * 5 + j, none⟩ = false from fun j hj => by
    have hj' : j < (n + 1) * 5 := by simp at hj; omega
    rw [show 0 + 0 * 5 + j = j by omega]
    exact ⟨by show (w.cell? _).isSome = true; rw [hcl j hj', List.getElem?_eq_getElem (by omega)]; rfl, hfz j hj'⟩)
  have HH := Lib.hid (And.intro h hcl)
  have z1 : (1 : Int) ≤ (n : Int) + 1 := by omega
  have hxl := Lib.hid hx
  clear hcl hfz h hx
  go_region_law (refine step_append_room rfl (.tmp 22) (.tmp 25) 22 rfl 65 i0 5 und hi0 hz1 g 0 0 cap rfl A n (cap - 1) (xs.drop 5) rfl (by have := hxl.out; simp; omega) hsrc.out (fun u hu => h1 u (List.mem_of_mem_drop hu)) (by omega) hsp.out ?_)
  obtain ⟨h, hcl⟩ := HH.out
  have hx := hxl.out
  have o1 : Own (w.drew.setCells g 0 (xs.drop 5)) 65 5 (.slice (some ⟨g, 0, none⟩) (n + 1) cap) (n + 1) (splice xs 0 (xs.drop 5)) := Own.setCells (by omega) _ _ _ _ (h.ext (Mod.drew (Mod.refl _ _))) (by simp; omega)
  have M1 : Mod (fun q => q = g) w (w.drew.setCells g 0 (xs.drop 5)) := Mod.setCells (F := fun q => q = g) (.inl rfl) _ _ _ (Mod.drew (Mod.refl _ _))
  obtain ⟨W1, hW1⟩ : ∃ W1, W1 = w.drew.setCells g 0 (xs.drop 5) := ⟨_, rfl⟩
  rw [← hW1] at o1 M1
  have hc1 : ∀ j, j < zero5.length → (W1.cell? ⟨g, n * 5 + j, none⟩).isSome = true := fun j hj => by
    have hj' : j < 5 := hj
    have := o1.sl.cell (n * 5 + j) _ (List.getElem?_eq_getElem (by have := o1.1; omega))
    rw [at_own] at this; rw [this]; rfl
  have hf1 : ∀ j, j < zero5.length → W1.frozen? ⟨g, n * 5 + j, none⟩ = false := fun j hj => by
    have hj' : j < 5 := hj
    have := o1.frozen (n * 5 + j) (by omega)
    rwa [at_own] at this
  have hclr : ∀ ty, (Builtin.clear_ #[22] ty #[.slice (some ⟨g, n * 5, none⟩) 1 (cap - n)]).run Try.prog W1 = .ok (.tuple #[]) (W1.setCells g (n * 5) zero5) := fun ty => run_clear_one W1 _ 65 ty (.agg #[.int .i64 0, .int .i64 0, .slice none 0 0, .int .i64 0, .bool false]) IE.und (fun w => by simp [zeroValue, typeInfo, hi0, hz0]) zero5 zero5_is (by intro u hu; simp [zero5] at hu; rcases hu with rfl | rfl | rfl | rfl <;> rfl) g (n * 5) (cap - n) hc1 hf1
  go_simp
  rw [← hW1]
  clear hW1
  go_wp2_with fail
  go_ret
  have o2 := Own.setCells (by omega) zero5 (n * 5) _ _ o1 (by show n * 5 + 5 ≤ _; omega)
  have o3 := o2.shrink (k := n) (by omega) (by omega)
  refine ⟨rfl, ?_, Mod.setCells (F := fun q => q = g) (.inl rfl) _ _ _ M1⟩
  have e : (splice (splice xs 0 (xs.drop 5)) (n * 5) zero5).take (n * 5) = xs.drop 5 := by
    have hd : (xs.drop 5).length = n * 5 := by simp; omega
    have hs1 : (splice xs 0 (xs.drop 5)).length = xs.length := length_splice _ _ _ (by omega)
    apply List.ext_getElem?
    intro j
    rw [List.getElem?_take]
    by_cases hj : j < n * 5
    · rw [if_pos hj, splice_get _ _ _ (by rw [hs1]; show n * 5 + 5 ≤ _; omega), if_neg (by omega), splice_get _ _ _ (by omega), if_pos (by omega), Nat.sub_zero]
    · rw [if_neg hj, List.getElem?_eq_none (by omega)]
  rw [e] at o3
  exact o3
end Go.Proofs.Ytnnciakdeoopaaa
