/-
  CellReplays: any log, any range. No condition.
-/
import Derived.Test.YthmkcgiiakinmaaCellReplays
import Derived.Test.YthmkcgiiakinmaaFrame
import Derived.Test.YthmkcgiiakinmaaEvArgs
namespace Go.Proofs.Ythmkcgiiakinmaa
open Go.Ren Go.ChangeShapes Go.WideShapes Go.ChangeAt Go.RowKit
set_option linter.unusedVariables false

namespace cellReplays
theorem own : ownKnob Try.prog.godebug = none := by kernel_rfl
set_option maxRecDepth 100000 in
theorem lifted (os : Os) (started : os.Started) (H : Type) (enc : TypeId × Value → H) :
    ReturnsInHanded {} Try.checked os 7 .any (Rows.cellReplaysSpec.pre6 enc Try.prog Try.f7 Rows.cellReplaysRow.domain false) (Rows.cellReplaysSpec.post enc Try.prog Try.f7 false true false false) := by
  refine returnsInHanded_of_change (C := Try.checked) own started (by kernel_rfl) Try.func7
    (ChangeSpec.witness6 (enc := enc) (C := Try.checked) false ⟨#[], #[.agg #[.slice none 0 0, .slice none 0 0], .int .i64 0, .int .i64 0, .int .i64 0], []⟩ 8 (by kernel_rfl) (by kernel_rfl) (by kernel_rfl) (by kernel_rfl)) ?_
  intro W base args ds gs before hval0 hW hcnd _
  have hval : ∀ (j : Nat) t v, Try.f7.params[j]? = some t → args[j]? = some v → Value.okWide Try.prog W .any base t v := hval0
  refine law_step (C := Try.checked) 4 (by kernel_rfl) (by kernel_rfl) Try.underlying4 rfl rfl (fun ds hd => ?_) hW ?_
  · match ds, hd with
    | [_, _, _, _], _ => exact ⟨rfl, rfl, rfl⟩
  obtain ⟨p, q, hA0, hV, rfl, hfz, hnd⟩ := hW
  have hA : DataW.TrodAll enc Try.prog W 0 (fun _ => true) true Try.f7.params.toList args.toList ds p := hA0
  rw [Try.params7] at hA hval
  obtain ⟨v0, vs0, d0, ds0, p0, q0, hargs, rfl, rfl, h0, r0⟩ := trodAll_cons hA
  obtain ⟨v1, vs1, d1, ds1, p1, q1, rfl, rfl, rfl, h1, r1⟩ := trodAll_cons r0
  obtain ⟨v2, vs2, d2, ds2, p2, q2, rfl, rfl, rfl, h2, r2⟩ := trodAll_cons r1
  obtain ⟨v3, vs3, d3, ds3, p3, q3, rfl, rfl, rfl, h3, r3⟩ := trodAll_cons r2
  obtain ⟨rfl, rfl, rfl⟩ := trodAll_nil r3
  obtain rfl : args = #[v0, v1, v2, v3] := by cases args; simp_all
  obtain ⟨ve0, vp0, V0, a0, rfl, w0⟩ := log_arg (hval 0 _ v0 rfl rfl) h0
  obtain ⟨a1, rfl, w1⟩ := arg_int Try.underlying3 (hval 1 _ v1 rfl rfl) h1
  obtain ⟨a2, rfl, w2⟩ := arg_int Try.underlying3 (hval 2 _ v2 rfl rfl) h2
  obtain ⟨a3, rfl, w3⟩ := arg_int Try.underlying3 (hval 3 _ v3 rfl rfl) h3
  exact (cellReplays_all W ve0 vp0 V0 a0 w0 a1 a2 a3 w1 w2 w3).mono fun e w' h => ⟨h.1, h.2.below⟩
end cellReplays

/-- The statement. -/
theorem cellReplays_holds : Rows.CellReplaysSaid :=
  OpenClaim.holds_of_wide 7 Try.f7 rfl rfl rfl rfl rfl rfl rfl ⟨rfl, rfl, rfl, rfl, rfl⟩ rfl rfl rfl rfl rfl (by kernel_rfl) Try.func7 (by kernel_rfl)
    (of_decide_eq_true (by kernel_rfl)) (by unfold Func.isWrapper; first | (rw [if_pos (by decide +kernel)]; kernel_rfl) | (rw [if_neg (by decide +kernel)]; exact ⟨rfl, rfl⟩))
    (fun os started H enc _ => cellReplays.lifted os started H enc)
#print axioms cellReplays_holds
end Go.Proofs.Ythmkcgiiakinmaa
