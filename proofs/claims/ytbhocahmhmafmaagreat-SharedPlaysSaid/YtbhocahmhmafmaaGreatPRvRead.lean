/-
  The contracts of renref14.wrote and renref14.read. No condition. The contract of renref14.May. No condition.
-/
import Derived.Test.YtbhocahmhmafmaaGreatPRvAt
import Derived.Test.YtbhocahmhmafmaaGreatPRvLog
import Derived.Test.YtbhocahmhmafmaaGreatPEvMay
namespace Go.Proofs.YtbhocahmhmafmaaGreat
open Go.Ren Go.RowKit
set_option linter.unusedVariables false
end Go.Proofs.YtbhocahmhmafmaaGreat
namespace Go.Proofs.YtbhocahmhmafmaaGreat
open Go.Ren Go.RowKit
set_option linter.unusedVariables false
structure RLogBox (w : World) (g : Nat) (ve vp : Value) : Prop where
 b : w.heap[g]? = some (.cells #[ve, vp] 57 (0, 0))
theorem RLogBox.ext {w w' : World} {g : Nat} {ve vp : Value} (h : RLogBox w g ve vp) (x : Ext w w') : RLogBox w' g ve vp := ⟨x.blk h.b⟩
theorem RLogBox.cells {w : World} {g : Nat} {ve vp : Value} (h : RLogBox w g ve vp) : w.cell? ⟨g, 0, none⟩ = some ve ∧ w.cell? ⟨g, 1, none⟩ = some vp := by simp [World.cell?, h.b]
end Go.Proofs.YtbhocahmhmafmaaGreat
