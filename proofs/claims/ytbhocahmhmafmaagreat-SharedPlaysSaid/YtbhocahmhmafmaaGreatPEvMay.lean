/-
  The contract of event.May. No condition.
-/
import Derived.Test.YtbhocahmhmafmaaGreatPEvReads
namespace Go.Proofs.YtbhocahmhmafmaaGreat
open Go.Ren Go.RowKit
set_option linter.unusedVariables false
end Go.Proofs.YtbhocahmhmafmaaGreat
