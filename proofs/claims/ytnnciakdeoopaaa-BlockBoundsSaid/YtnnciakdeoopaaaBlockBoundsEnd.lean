/-
  BlockBounds: for every size, place and number the law renlaw18.BlockBounds returns true, without a panic, and leaves its arguments as they were. No condition.
-/
import Derived.Test.YtnnciakdeoopaaaBlockBounds
namespace Go.Proofs.Ytnnciakdeoopaaa
open Go.Ren Go.ChangeShapes Go.WideShapes Go.ChangeAt Go.RowKit

set_option maxRecDepth 100000 in
theorem bounds_big (size a n : Int) (hn : 1000 < n) (w : World) :
    Calls Try.prog 6 #[.int .i64 size, .int .i64 a, .int .i64 n] w fun e w' => e = .returned (.bool true) ∧ Ext w w' := by
  go_enter Try.func6, Try.ntmps6
  go_wp2_with fail
  refine (first18_any _).mono ?_
  rintro e w1 ⟨rfl, x1⟩
  go_wp2_with fail
  refine (new_any _).mono ?_
  rintro e w2 ⟨pb, S2, rfl, B2, x2, f2⟩
  go_wp2_with fail
  refine (first18_any _).mono ?_
  rintro e w3 ⟨rfl, x3⟩
  go_wp2_with fail
  go_ret
  exact ⟨rfl, (x1.trans x2).trans x3⟩

theorem bounds_all (size a n : Int) (w : World) :
    Calls Try.prog 6 #[.int .i64 size, .int .i64 a, .int .i64 n] w fun e w' => e = .returned (.bool true) ∧ Below w.heap.size w w' := by
  refine Calls.mono (R := fun e w' => e = .returned (.bool true) ∧ Ext w w') ?_ (fun e w' h => ⟨h.1, h.2.below⟩)
  by_cases hn : 1000 < n
  · exact bounds_big size a n hn w
  by_cases h0 : bmakeE [] size = 0
  · have hs := (bounds_E size).1 h0
    obtain ⟨z, rfl⟩ := Int.eq_ofNat_of_zero_le hs.1
    exact bounds_ok z (by omega) a n (by omega) w
  · exact bounds_err size a n (by omega) h0 w

namespace blockBounds
theorem own : ownKnob Try.prog.godebug = none := by kernel_rfl
set_option maxRecDepth 100000 in
theorem lifted (os : Os) (started : os.Started) (H : Type) (enc : TypeId × Value → H) :
    ReturnsInHanded {} Try.checked os 6 .any (Rows.blockBoundsSpec.pre6 enc Try.prog Try.f6 Rows.blockBoundsRow.domain false) (Rows.blockBoundsSpec.post enc Try.prog Try.f6 false true false false) := by
  refine returnsInHanded_of_change (C := Try.checked) own started (by kernel_rfl) Try.func6
    (ChangeSpec.witness6 (enc := enc) (C := Try.checked) false ⟨#[], #[.int .i64 0, .int .i64 0, .int .i64 0], []⟩ 8 (by kernel_rfl) (by kernel_rfl) (by kernel_rfl) (by kernel_rfl)) ?_
  intro W base args ds gs before hval0 hW hcnd _
  have hval : ∀ (j : Nat) t v, Try.f6.params[j]? = some t → args[j]? = some v → Value.okWide Try.prog W .any base t v := hval0
  refine law_step (C := Try.checked) 4 (by kernel_rfl) (by kernel_rfl) Try.underlying4 rfl rfl (fun ds hd => ?_) hW ?_
  · match ds, hd with
    | [_, _, _], _ => exact ⟨rfl, rfl, rfl⟩
  obtain ⟨p, q, hA0, hV, rfl, hfz, hnd⟩ := hW
  have hA : DataW.TrodAll enc Try.prog W 0 (fun _ => true) true Try.f6.params.toList args.toList ds p := hA0
  rw [Try.params6] at hA hval
  obtain ⟨v0, vs0, d0, ds0, p0, q0, hargs, rfl, rfl, h0, r0⟩ := trodAll_cons hA
  obtain ⟨v1, vs1, d1, ds1, p1, q1, rfl, rfl, rfl, h1, r1⟩ := trodAll_cons r0
  obtain ⟨v2, vs2, d2, ds2, p2, q2, rfl, rfl, rfl, h2, r2⟩ := trodAll_cons r1
  obtain ⟨rfl, rfl, rfl⟩ := trodAll_nil r2
  obtain rfl : args = #[v0, v1, v2] := by cases args; simp_all
  obtain ⟨a0, rfl, w0⟩ := arg_int Try.underlying3 (hval 0 _ v0 rfl rfl) h0
  obtain ⟨a1, rfl, w1⟩ := arg_int Try.underlying3 (hval 1 _ v1 rfl rfl) h1
  obtain ⟨a2, rfl, w2⟩ := arg_int Try.underlying3 (hval 2 _ v2 rfl rfl) h2
  exact bounds_all a0 a1 a2 W
end blockBounds

/-- The statement. -/
theorem blockBounds_holds : Rows.BlockBoundsSaid :=
  OpenClaim.holds_of_wide 6 Try.f6 rfl rfl rfl rfl rfl rfl rfl ⟨rfl, rfl, rfl, rfl, rfl⟩ rfl rfl rfl rfl rfl (by kernel_rfl) Try.func6 (by kernel_rfl)
    (of_decide_eq_true (by kernel_rfl)) (by unfold Func.isWrapper; first | (rw [if_pos (by decide +kernel)]; kernel_rfl) | (rw [if_neg (by decide +kernel)]; exact ⟨rfl, rfl⟩))
    (fun os started H enc _ => blockBounds.lifted os started H enc)
#print axioms blockBounds_holds
end Go.Proofs.Ytnnciakdeoopaaa
