/-
  The contracts of race.unordered, race.two, race.Conflict. No condition. The contracts of race.Conflicts, race.Datas, race.First. No condition.
-/
import Derived.Test.YtbhocahmhmafmaaGreatVRelTool
namespace Go.Proofs.YtbhocahmhmafmaaGreat
open Go.Ren Go.RowKit
set_option linter.unusedVariables false
end Go.Proofs.YtbhocahmhmafmaaGreat
namespace Go.Ren
set_option linter.unusedVariables false
end Go.Ren
namespace Go.Proofs.YtbhocahmhmafmaaGreat
open Go.Ren Go.RowKit
set_option linter.unusedVariables false
theorem pair_cells {w : World} {v : Value} {l : List (Int × Int)} (h : PairsOwn w v l) {i : Nat} (hi : i < l.length) : w.cell? (at_ v (i * 2)) = some (.int .i64 (prn l i).1) ∧ w.cell? ⟨(at_ v (i * 2)).block, (at_ v (i * 2)).off + 1, none⟩ = some (.int .i64 (prn l i).2) :=
 ⟨h.sl.cell (i * 2) _ (flat_get (sz := 2) (j := 0) _ hi (by decide)), h.sl.cell_off (j := 1) (by decide) (flat_get (sz := 2) (j := 1) _ hi (by decide))⟩
end Go.Proofs.YtbhocahmhmafmaaGreat
