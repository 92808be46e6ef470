/-
  The contract of Len. No condition.
-/
import Derived.Test.YtkibdabbjbcboaaRelAt
namespace Go.Proofs.Ytkibdabbjbcboaa
open Go.Ren Go.RowKit
set_option linter.unusedVariables false
set_option maxRecDepth 100000 in
theorem rlen_any (w : World) (p : Value) (n : Nat) (R : Nat → Nat → Bool) (h : RelIs w p n R) :
    Calls Try.prog 28 #[p] w (fun e w' => e = .returned (.int .i64 (n : Int)) ∧ w = w') := by
  obtain ⟨g, rfl⟩ := h.ptr
  have c := h.len.1
  clear h
  go_enter Try.func28, Try.ntmps28
  go_wp2_with fail
  go_ret
  exact ⟨rfl, rfl⟩
end Go.Proofs.Ytkibdabbjbcboaa
