/-
  The contract of renref14.shape, all. No condition.
-/
import Derived.Test.YthmkcgiiakinmaaRvShB
import Derived.Test.YthmkcgiiakinmaaRvShC
import Derived.Test.YthmkcgiiakinmaaRvShD
namespace Go.Proofs.Ythmkcgiiakinmaa
open Go.Ren Go.RowKit
set_option linter.unusedVariables false

theorem shape_any (w : World) (e : Ev) (v : Vs) (h : EvAt w e v) (hsm : e.rd.length ≤ 20000 ∧ e.wr.length ≤ 20000 ∧ e.fr.length ≤ 20000) :
    Calls Try.prog 89 #[evV e v] w (FPost (evShape e) w) := by
  by_cases hg : 0 ≤ e.ag ∧ e.ag < 64 ∧ 1 ≤ e.kind ∧ e.kind ≤ 3
  · by_cases hr : 0 ≤ e.blk ∧ e.blk < 16 ∧ 1 ≤ e.size ∧ e.size ≤ 8 ∧ 0 ≤ e.at_ ∧ e.at_ ≤ 256 - e.size
    · rcases (by omega : e.kind = 1 ∨ e.kind = 2 ∨ e.kind = 3) with z | z | z
      · exact shape_1 w e v h hsm ⟨hg.1, hg.2.1⟩ z hr
      · exact shape_2 w e v h hsm ⟨hg.1, hg.2.1⟩ z hr
      · exact shape_3 w e v h hsm ⟨hg.1, hg.2.1⟩ z hr
    · exact shape_b w e v h hsm hg hr
  · exact shape_a w e v h hsm hg
end Go.Proofs.Ythmkcgiiakinmaa
