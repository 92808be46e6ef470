/-
  The contracts of renref.CopyBytes. No condition.
-/
import Derived.Test.YtnnciakdeoopaaaBaseByt
namespace Go.Proofs.Ytnnciakdeoopaaa
open Go.Ren Go.RowKit
theorem copy_bytes (w : World) (v : Value) (l : List UInt8) (h : BytesAt w v l) (hl : l.length ≤ 1000000) :
    Calls Try.prog 51 #[v] w (Copied 5 (l.map bv) w) := by
  go_enter Try.func51, Try.ntmps51
  go_wp2_with (at_builtin; refine wpList_app IB rfl (.tmp 3) (.tmp 4) rfl (own_empty _ _) (h.ext ((Mod.refl _ _).alloc _)) (one_bv l) rfl rfl (by omega) (by simp only [maxLen]; omega) ?_; intro v' w' ho hgr hfr hnn)
  go_ret
  refine ⟨_, rfl, by simpa using ho, ((Mod.refl _ w).alloc _).grown hgr (by intro k hk; simp [Value.ownBlock] at hk; right; omega), fun k hk => ?_⟩
  rcases hfr k hk with h1 | h1
  · simp [Value.ownBlock] at h1; omega
  · simp at h1; omega
end Go.Proofs.Ytnnciakdeoopaaa
