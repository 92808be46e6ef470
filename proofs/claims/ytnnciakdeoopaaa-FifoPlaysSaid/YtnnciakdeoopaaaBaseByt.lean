/-
  The contract of renref.Bytes. No condition.
-/
import Derived.Test.YtnnciakdeoopaaaBaseA
namespace Go.Proofs.Ytnnciakdeoopaaa
open Go.Ren Go.RowKit
theorem bytes_any (w : World) (v1 v2 : Value) (a b : List UInt8) (h1 : BytesAt w v1 a) (h2 : BytesAt w v2 b) :
    Calls Try.prog 16 #[v1, v2] w fun e w' => e = .returned (.bool (a == b)) ∧ w = w' := by
  have e1 := h1.run_string (P := Try.prog) (D := 9) Try.underlying27 Try.underlying5 Try.underlying9
  have e2 := h2.run_string (P := Try.prog) (D := 9) Try.underlying27 Try.underlying5 Try.underlying9
  have s1 := str_toList a
  have s2 := str_toList b
  clear h1 h2
  go_enter Try.func16, Try.ntmps16
  go_wp2
  go_ret
  exact ⟨rfl, rfl⟩
end Go.Proofs.Ytnnciakdeoopaaa
