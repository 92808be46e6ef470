/-
  Laws for slices.Delete: cells written in a row; append onto a row's head in place; clear. No condition, no program.
-/
import Derived.Test.YtnnciakdeoopaaaBlockKeepsLaw
import Derived.ArgAppend
import Derived.Lib.SliceRun
namespace Go.Ren
open Go.RowKit
set_option linter.unusedVariables false

theorem splice_cons {α : Type} (L : List α) (off : Nat) (v : α) (vs : List α) (h : off + (vs.length + 1) ≤ L.length) : splice L off (v :: vs) = splice (L.set off v) (off + 1) vs := by
  apply List.ext_getElem?
  intro j
  rw [splice_get _ _ _ (by simpa using h), splice_get _ _ _ (by simp; omega), List.getElem?_set]
  by_cases h1 : j = off
  · subst h1
    rw [if_pos (by simp), if_neg (by omega), if_pos rfl, if_pos (by omega), Nat.sub_self]; rfl
  · by_cases h2 : off ≤ j ∧ j < off + (vs.length + 1)
    · rw [if_pos (by simpa using h2), if_pos (by omega)]
      rw [show j - off = (j - (off + 1)) + 1 by omega]; rfl
    · rw [if_neg (by simpa using h2), if_neg (by omega), if_neg (by omega)]

theorem Own.setCells {e sz g n cap : Nat} (hn : 0 < n) : ∀ (vs : List Value) (off : Nat) (w : World) (xs : List Value), Own w e sz (.slice (some ⟨g, 0, none⟩) n cap) n xs → off + vs.length ≤ n * sz →
    Own (w.setCells g off vs) e sz (.slice (some ⟨g, 0, none⟩) n cap) n (splice xs off vs)
  | [], off, w, xs, h, _ => by rw [splice_nil]; exact h
  | v :: vs, off, w, xs, h, hl => by
    have hx : xs.length = n * sz := h.1
    rw [splice_cons _ _ _ _ (by simp at hl; omega)]
    have h2 := h.set hn off v
    rw [at_own] at h2
    exact Own.setCells hn vs (off + 1) _ _ h2 (by simp at hl; omega)
theorem Mod.setCells {F : Nat → Prop} {a : World} {g : Nat} (hg : F g ∨ a.heap.size ≤ g) : ∀ (vs : List Value) (off : Nat) (b : World), Mod F a b → Mod F a (b.setCells g off vs)
  | [], _, _, h => h
  | v :: vs, off, b, h => Mod.setCells hg vs (off + 1) _ (h.setCell hg v)
end Go.Ren
