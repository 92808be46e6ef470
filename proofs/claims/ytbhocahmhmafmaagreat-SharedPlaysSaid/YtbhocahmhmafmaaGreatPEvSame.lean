/-
  The contract of event.Same, of what it calls. No condition. The contracts of event.alike, event.Same. No condition. The contracts of slices.EqualFunc with event.alike, of event.Same, of renlaw14.Few. No condition.
-/
import Derived.Test.YtbhocahmhmafmaaGreatPEvReads
import Derived.Test.YtbhocahmhmafmaaGreatPBaseA
import Derived.Test.YtbhocahmhmafmaaGreatPEvCopied
namespace Go.Ren
set_option linter.unusedVariables false
def evSame (a b : Ev) : Bool := decide (a.ag = b.ag ∧ a.kind = b.kind ∧ a.seq = b.seq ∧ a.nt = b.nt ∧ a.blk = b.blk ∧ a.at_ = b.at_ ∧ a.size = b.size) && (a.rd == b.rd) && (a.wr == b.wr) && (a.fr == b.fr)
theorem evSame_iff {a b : Ev} : evSame a b = true ↔ a = b := by
 obtain ⟨a1, a2, a3, a4, a5, a6, a7, a8, a9, a10⟩ := a
 obtain ⟨b1, b2, b3, b4, b5, b6, b7, b8, b9, b10⟩ := b
 simp [evSame, and_assoc]
def evsSame (x y : List Ev) : Bool := decide (x.length = y.length) && (List.range x.length).all fun i => evSame (evn x i) (evn y i)
theorem evsSame_iff {x y : List Ev} : evsSame x y = true ↔ x = y := by
 unfold evsSame
 simp only [Bool.and_eq_true, decide_eq_true_eq, List.all_eq_true, List.mem_range, evSame_iff]
 refine ⟨fun ⟨h1, h2⟩ => List.ext_getElem h1 fun i hi hj => ?_, fun h => by subst h; exact ⟨rfl, fun _ _ => rfl⟩⟩
 have := h2 i hi
 rwa [evn_eq hi, evn_eq hj] at this
def lgSame (a b : Lg) : Bool := evsSame a.ev b.ev && (a.pr == b.pr)
theorem lgSame_iff {a b : Lg} : lgSame a b = true ↔ a = b := by
 obtain ⟨a1, a2⟩ := a
 obtain ⟨b1, b2⟩ := b
 simp [lgSame, evsSame_iff]
theorem evsSame_false {x y : List Ev} {i : Nat} (hi : i < x.length) (h : evSame (evn x i) (evn y i) = false) : evsSame x y = false := by
 cases hs : evsSame x y with
 | false => rfl
 | true => have := evsSame_iff.1 hs; subst this; rw [evSame_iff.2 rfl] at h; cases h
end Go.Ren
namespace Go.Proofs.YtbhocahmhmafmaaGreat
open Go.Ren Go.RowKit
set_option linter.unusedVariables false
end Go.Proofs.YtbhocahmhmafmaaGreat
namespace Go.Proofs.YtbhocahmhmafmaaGreat
open Go.Ren Go.RowKit
set_option linter.unusedVariables false
end Go.Proofs.YtbhocahmhmafmaaGreat
namespace Go.Proofs.YtbhocahmhmafmaaGreat
open Go.Ren Go.RowKit
set_option linter.unusedVariables false
end Go.Proofs.YtbhocahmhmafmaaGreat
