/-
  EventLogs: any log: may it be, its heads, is it another one. No condition.
-/
import Derived.Test.YtkibdabbjbcboaaEventLogs
import Derived.Test.YtkibdabbjbcboaaFrame
import Derived.Test.YtkibdabbjbcboaaEvArgs
namespace Go.Proofs.Ytkibdabbjbcboaa
open Go.Ren Go.ChangeShapes Go.WideShapes Go.ChangeAt Go.RowKit
set_option linter.unusedVariables false

namespace eventLogs
theorem own : ownKnob Try.prog.godebug = none := by kernel_rfl
set_option maxRecDepth 100000 in
theorem lifted (os : Os) (started : os.Started) (H : Type) (enc : TypeId × Value → H) :
    ReturnsInHanded {} Try.checked os 8 .any (Rows.eventLogsSpec.pre6 enc Try.prog Try.f8 Rows.eventLogsRow.domain false) (Rows.eventLogsSpec.post enc Try.prog Try.f8 false true false false) := by
  refine returnsInHanded_of_change (C := Try.checked) own started (by kernel_rfl) Try.func8
    (ChangeSpec.witness6 (enc := enc) (C := Try.checked) false ⟨#[], #[.agg #[.slice none 0 0, .slice none 0 0], .agg #[.slice none 0 0, .slice none 0 0], .int .i64 0], []⟩ 8 (by kernel_rfl) (by kernel_rfl) (by kernel_rfl) (by kernel_rfl)) ?_
  intro W base args ds gs before hval0 hW hcnd _
  have hval : ∀ (j : Nat) t v, Try.f8.params[j]? = some t → args[j]? = some v → Value.okWide Try.prog W .any base t v := hval0
  refine law_step (C := Try.checked) 4 (by kernel_rfl) (by kernel_rfl) Try.underlying4 rfl rfl (fun ds hd => ?_) hW ?_
  · match ds, hd with
    | [_, _, _], _ => exact ⟨rfl, rfl, rfl⟩
  obtain ⟨p, q, hA0, hV, rfl, hfz, hnd⟩ := hW
  have hA : DataW.TrodAll enc Try.prog W 0 (fun _ => true) true Try.f8.params.toList args.toList ds p := hA0
  rw [Try.params8] at hA hval
  obtain ⟨v0, vs0, d0, ds0, p0, q0, hargs, rfl, rfl, h0, r0⟩ := trodAll_cons hA
  obtain ⟨v1, vs1, d1, ds1, p1, q1, rfl, rfl, rfl, h1, r1⟩ := trodAll_cons r0
  obtain ⟨v2, vs2, d2, ds2, p2, q2, rfl, rfl, rfl, h2, r2⟩ := trodAll_cons r1
  obtain ⟨rfl, rfl, rfl⟩ := trodAll_nil r2
  obtain rfl : args = #[v0, v1, v2] := by cases args; simp_all
  obtain ⟨ve0, vp0, V0, a0, rfl, w0⟩ := log_arg (hval 0 _ v0 rfl rfl) h0
  obtain ⟨ve1, vp1, V1, a1, rfl, w1⟩ := log_arg (hval 1 _ v1 rfl rfl) h1
  obtain ⟨a2, rfl, w2⟩ := arg_int Try.underlying3 (hval 2 _ v2 rfl rfl) h2
  exact (eventLogs_all W ve0 vp0 ve1 vp1 V0 V1 a0 a1 w0 w1 a2 w2).mono fun e w' h => ⟨h.1, h.2.below⟩
end eventLogs

/-- The statement. -/
theorem eventLogs_holds : Rows.EventLogsSaid :=
  OpenClaim.holds_of_wide 8 Try.f8 rfl rfl rfl rfl rfl rfl rfl ⟨rfl, rfl, rfl, rfl, rfl⟩ rfl rfl rfl rfl rfl (by kernel_rfl) Try.func8 (by kernel_rfl)
    (of_decide_eq_true (by kernel_rfl)) (by unfold Func.isWrapper; first | (rw [if_pos (by decide +kernel)]; kernel_rfl) | (rw [if_neg (by decide +kernel)]; exact ⟨rfl, rfl⟩))
    (fun os started H enc _ => eventLogs.lifted os started H enc)
#print axioms eventLogs_holds
end Go.Proofs.Ytkibdabbjbcboaa
