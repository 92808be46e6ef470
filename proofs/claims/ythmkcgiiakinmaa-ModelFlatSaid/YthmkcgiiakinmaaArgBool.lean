/-
  How a bool that came in is opened. No condition.
-/
import Derived.Test.YthmkcgiiakinmaaFrame
namespace Go.Ren
open Go.ChangeShapes Go.WideShapes Go.ChangeAt Go.RowKit
theorem arg_bool {H : Type} {enc : TypeId × Value → H} {P : Program} {W : World} {base : Nat} {T : TypeId} {v : Value} {d : DataW H} {ps : List MemPlace} (hu : P.underlying T = some .bool) (hval : Value.okWide P W .any base T v) (h : DataW.Trod enc P W 0 (fun _ => true) true T v d ps) : ∃ b : Bool, v = .bool b := by
  obtain ⟨b, rfl, _⟩ := open_bool hu hval h
  exact ⟨b, rfl⟩
end Go.Ren
