/-
  FifoPlays: the law renlaw19.FifoPlays returns true. No condition.
-/
import Derived.Test.YtnnciakdeoopaaaFifoPlays
import Derived.Test.YtnnciakdeoopaaaFrame
namespace Go.Proofs.Ytnnciakdeoopaaa
open Go.Ren Go.ChangeShapes Go.WideShapes Go.ChangeAt Go.RowKit
set_option linter.unusedVariables false

namespace fifoPlays
theorem own : ownKnob Try.prog.godebug = none := by kernel_rfl
set_option maxRecDepth 100000 in
theorem lifted (os : Go.Os) (started : os.Started) (H : Type) (enc : TypeId × Value → H) :
    ReturnsInHanded {} Try.checked os 12 .any (Rows.fifoPlaysSpec.pre6 enc Try.prog Try.f12 Rows.fifoPlaysRow.domain false) (Rows.fifoPlaysSpec.post enc Try.prog Try.f12 false true false false) := by
  refine returnsInHanded_of_change (C := Try.checked) own started (by kernel_rfl) Try.func12
    (ChangeSpec.witness6 (enc := enc) (C := Try.checked) false ⟨#[], #[.int .i64 0, .slice none 0 0], []⟩ 8 (by kernel_rfl) (by kernel_rfl) (by kernel_rfl) (by kernel_rfl)) ?_
  intro W base args ds gs before hval0 hW hcnd _
  have hval : ∀ (j : Nat) t v, Try.f12.params[j]? = some t → args[j]? = some v → Value.okWide Try.prog W .any base t v := hval0
  refine law_step (C := Try.checked) 4 (by kernel_rfl) (by kernel_rfl) Try.underlying4 rfl rfl (fun ds hd => ?_) hW ?_
  · match ds, hd with
    | [_, _], _ => exact ⟨rfl, rfl, rfl⟩
  obtain ⟨p, q, hA0, hV, rfl, hfz, hnd⟩ := hW
  have hA : DataW.TrodAll enc Try.prog W 0 (fun _ => true) true Try.f12.params.toList args.toList ds p := hA0
  rw [Try.params12] at hA hval
  obtain ⟨v0, vs0, d0, ds0, p0, q0, hargs, rfl, rfl, h0, r0⟩ := trodAll_cons hA
  obtain ⟨v1, vs1, d1, ds1, p1, q1, rfl, rfl, rfl, h1, r1⟩ := trodAll_cons r0
  obtain ⟨rfl, rfl, rfl⟩ := trodAll_nil r1
  obtain rfl : args = #[v0, v1] := by cases args; simp_all
  obtain ⟨a0, rfl, w0⟩ := arg_int Try.underlying3 (hval 0 _ v0 rfl rfl) h0
  obtain ⟨a1, w1⟩ := ops19_arg (hval 1 _ v1 rfl rfl) h1
  exact (plays19_all _ _ a1 W w0 w1).mono fun e w' h => ⟨h.1, h.2.below⟩
end fifoPlays

/-- The statement. -/
theorem fifoPlays_holds : Rows.FifoPlaysSaid :=
  OpenClaim.holds_of_wide 12 Try.f12 rfl rfl rfl rfl rfl rfl rfl ⟨rfl, rfl, rfl, rfl, rfl⟩ rfl rfl rfl rfl rfl (by kernel_rfl) Try.func12 (by kernel_rfl)
    (of_decide_eq_true (by kernel_rfl)) (by unfold Func.isWrapper; first | (rw [if_pos (by decide +kernel)]; kernel_rfl) | (rw [if_neg (by decide +kernel)]; exact ⟨rfl, rfl⟩))
    (fun os started H enc _ => fifoPlays.lifted os started H enc)
#print axioms fifoPlays_holds
end Go.Proofs.Ytnnciakdeoopaaa
