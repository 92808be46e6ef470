/-
  EventAsks: for any two events the law renlaw14.EventAsks returns true, without a panic, and leaves its arguments as they were. No condition.
-/
import Derived.Test.YtkibdabbjbcboaaEvAsks
import Derived.Test.YtkibdabbjbcboaaFrame
import Derived.Test.YtkibdabbjbcboaaEvArgs
namespace Go.Proofs.Ytkibdabbjbcboaa
open Go.Ren Go.ChangeShapes Go.WideShapes Go.ChangeAt Go.RowKit
set_option linter.unusedVariables false

namespace eventAsks
theorem own : ownKnob Try.prog.godebug = none := by kernel_rfl
set_option maxRecDepth 100000 in
theorem lifted (os : Os) (started : os.Started) (H : Type) (enc : TypeId × Value → H) :
    ReturnsInHanded {} Try.checked os 7 .any (Rows.eventAsksSpec.pre6 enc Try.prog Try.f7 Rows.eventAsksRow.domain false) (Rows.eventAsksSpec.post enc Try.prog Try.f7 false true false false) := by
  refine returnsInHanded_of_change (C := Try.checked) own started (by kernel_rfl) Try.func7
    (ChangeSpec.witness6 (enc := enc) (C := Try.checked) false ⟨#[], #[.agg #[.int .i64 0, .int .i64 0, .bool false, .bool false, .int .i64 0, .int .i64 0, .int .i64 0, .slice none 0 0, .slice none 0 0, .slice none 0 0], .agg #[.int .i64 0, .int .i64 0, .bool false, .bool false, .int .i64 0, .int .i64 0, .int .i64 0, .slice none 0 0, .slice none 0 0, .slice none 0 0]], []⟩ 8 (by kernel_rfl) (by kernel_rfl) (by kernel_rfl) (by kernel_rfl)) ?_
  intro W base args ds gs before hval0 hW hcnd _
  have hval : ∀ (j : Nat) t v, Try.f7.params[j]? = some t → args[j]? = some v → Value.okWide Try.prog W .any base t v := hval0
  refine law_step (C := Try.checked) 4 (by kernel_rfl) (by kernel_rfl) Try.underlying4 rfl rfl (fun ds hd => ?_) hW ?_
  · match ds, hd with
    | [_, _], _ => exact ⟨rfl, rfl, rfl⟩
  obtain ⟨p, q, hA0, hV, rfl, hfz, hnd⟩ := hW
  have hA : DataW.TrodAll enc Try.prog W 0 (fun _ => true) true Try.f7.params.toList args.toList ds p := hA0
  rw [Try.params7] at hA hval
  obtain ⟨v0, vs0, d0, ds0, p0, q0, hargs, rfl, rfl, h0, r0⟩ := trodAll_cons hA
  obtain ⟨v1, vs1, d1, ds1, p1, q1, rfl, rfl, rfl, h1, r1⟩ := trodAll_cons r0
  obtain ⟨rfl, rfl, rfl⟩ := trodAll_nil r1
  obtain rfl : args = #[v0, v1] := by cases args; simp_all
  obtain ⟨a0, u0, rfl, w0⟩ := ev_arg (hval 0 _ v0 rfl rfl) h0
  obtain ⟨a1, u1, rfl, w1⟩ := ev_arg (hval 1 _ v1 rfl rfl) h1
  exact (asks_all a0 a1 u0 u1 W w0 w1).mono fun e w' h => ⟨h.1, h.2.below⟩
end eventAsks

/-- The statement. -/
theorem eventAsks_holds : Rows.EventAsksSaid :=
  OpenClaim.holds_of_wide 7 Try.f7 rfl rfl rfl rfl rfl rfl rfl ⟨rfl, rfl, rfl, rfl, rfl⟩ rfl rfl rfl rfl rfl (by kernel_rfl) Try.func7 (by kernel_rfl)
    (of_decide_eq_true (by kernel_rfl)) (by unfold Func.isWrapper; first | (rw [if_pos (by decide +kernel)]; kernel_rfl) | (rw [if_neg (by decide +kernel)]; exact ⟨rfl, rfl⟩))
    (fun os started H enc _ => eventAsks.lifted os started H enc)
#print axioms eventAsks_holds
end Go.Proofs.Ytkibdabbjbcboaa
