/-
  Small tools; the library's clones. No condition.
-/
import Derived.Test.YtnnciakdeoopaaaProg
import Derived.Test.YtnnciakdeoopaaaLib
import Derived.Lib.Hide
import Derived.Outline
namespace Go.Proofs.Ytnnciakdeoopaaa
open Go.Ren Go.RowKit
theorem IB : EInfo Try.prog 27 5 1 1 (.int .u8 0) := ⟨Try.underlying27, by kernel_rfl, rfl, by decide⟩
theorem II : EInfo Try.prog 26 3 1 8 (.int .i64 0) := ⟨Try.underlying26, by kernel_rfl, rfl, by decide⟩

theorem take_step {α : Type} {a b : List α} {k : Nat} (h : a.take k = b.take k) (ha : k < a.length) (hb : k < b.length) (hx : a[k] = b[k]) : a.take (k + 1) = b.take (k + 1) := by
  rw [List.take_succ_eq_append_getElem ha, List.take_succ_eq_append_getElem hb, h, hx]
theorem ret_bool {a b : Bool} (h : a = b) : Ending.returned (.bool a) = .returned (.bool b) := by rw [h]

theorem nil_of {w : World} {v : Value} {sz n : Nat} {xs : List Value} (h : Sl w v sz n xs) (hv : nilS v = true) : n = 0 := by
  obtain ⟨a, c, rfl, _, _, h3⟩ := h.shape
  cases a with
  | none => exact (h3 rfl).1
  | some p => cases hv
theorem own_empty (w : World) (e : TypeId) : Own (w.alloc (.cells #[] e)) e 1 (.slice (some ⟨w.heap.size, 0, none⟩) 0 0) 0 [] := Own.made w #[] e 1 0 (by simp [maxLen]) rfl

/-- What a copy is: a row of its own. -/
def Copied (e : TypeId) (xs : List Value) (w : World) (en : Ending) (w' : World) : Prop := ∃ v', en = .returned v' ∧ Own w' e 1 v' xs.length xs ∧ Ext w w' ∧ (∀ k, v'.ownBlock = some k → w.heap.size ≤ k)

theorem clone_bytes (w : World) (v : Value) (l : List UInt8) (h : BytesAt w v l) (hl : l.length ≤ 1000000) :
    Calls Try.prog 47 #[v] w (Copied 5 (l.map bv) w) := by
  have hnil := Sl.run_nil (P := Try.prog) h IB.und
  have hg := run_guard_nil (P := Try.prog) v
  cases hv : nilS v with
  | true =>
    rw [hv] at hnil
    have hl : l = [] := List.eq_nil_of_length_eq_zero (nil_of h hv)
    subst hl
    clear hv
    go_enter Try.func47, Try.ntmps47
    go_wp2
    go_ret
    exact ⟨_, rfl, Own.nil _ _ _, Mod.refl _ _, fun k hk => by cases hk⟩
  | false =>
    rw [hv] at hnil
    clear hv
    go_enter Try.func47, Try.ntmps47
    go_wp2_with (at_builtin; refine wpList_app IB rfl (.tmp 5) (.tmp 6) rfl (own_empty _ _) (h.ext ((Mod.refl _ _).alloc _)) (one_bv l) rfl rfl (by omega) (by simp only [maxLen]; omega) ?_; intro v' w' ho hgr hfr hnn)
    go_ret
    refine ⟨_, rfl, by simpa using ho, ((Mod.refl _ w).alloc _).grown hgr (by intro k hk; simp [Value.ownBlock] at hk; right; omega), fun k hk => ?_⟩
    rcases hfr k hk with h1 | h1
    · simp [Value.ownBlock] at h1; omega
    · simp at h1; omega
theorem clone_ints (w : World) (v : Value) (l : List Int) (h : IntsAt w v l) (hl : l.length ≤ 1000000) :
    Calls Try.prog 48 #[v] w (Copied 3 (l.map iv) w) := by
  have hnil := Sl.run_nil (P := Try.prog) h.sl II.und
  have hg := run_guard_nil (P := Try.prog) v
  cases hv : nilS v with
  | true =>
    rw [hv] at hnil
    have hl : l = [] := List.eq_nil_of_length_eq_zero (nil_of h.sl hv)
    subst hl
    clear hv
    go_enter Try.func48, Try.ntmps48
    go_wp2
    go_ret
    exact ⟨_, rfl, Own.nil _ _ _, Mod.refl _ _, fun k hk => by cases hk⟩
  | false =>
    rw [hv] at hnil
    clear hv
    go_enter Try.func48, Try.ntmps48
    go_wp2_with (at_builtin; refine wpList_app II rfl (.tmp 5) (.tmp 6) rfl (own_empty _ _) (h.sl.ext (by decide) ((Mod.refl _ _).alloc _)) (one_iv l) rfl rfl (by omega) (by simp only [maxLen]; omega) ?_; intro v' w' ho hgr hfr hnn)
    go_ret
    refine ⟨_, rfl, by simpa using ho, ((Mod.refl _ w).alloc _).grown hgr (by intro k hk; simp [Value.ownBlock] at hk; right; omega), fun k hk => ?_⟩
    rcases hfr k hk with h1 | h1
    · simp [Value.ownBlock] at h1; omega
    · simp at h1; omega
end Go.Proofs.Ytnnciakdeoopaaa
