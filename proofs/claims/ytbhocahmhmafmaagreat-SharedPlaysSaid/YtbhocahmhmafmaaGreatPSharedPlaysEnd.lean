/-
  SharedPlays: the law renlaw20.SharedPlays returns true. No condition.
-/
import Derived.Test.YtbhocahmhmafmaaGreatPSharedPlays
import Derived.Test.YtbhocahmhmafmaaGreatPFrame
import Derived.SizedLaws
namespace Go.Proofs.YtbhocahmhmafmaaGreat
open Go.Ren Go.ChangeShapes Go.WideShapes Go.ChangeAt Go.RowKit
set_option linter.unusedVariables false
namespace sharedPlays
theorem own : ownKnob Tryz.prog.godebug = none := by kernel_rfl
set_option maxRecDepth 100000 in
theorem lifted (os : Go.Os) (started : os.Started) (H : Type) (enc : TypeId × Value → H) :
 ReturnsInHanded {} Tryz.checked os 3 .any (Rows.sharedPlaysSpec.pre6 enc Tryz.prog Tryz.f3 Rows.sharedPlaysRow.domain false) (Rows.sharedPlaysSpec.post enc Tryz.prog Tryz.f3 false true false false) := by
 refine returnsInHanded_of_change_sized (C := Tryz.checked) own started (by kernel_rfl) Tryz.func3
  (ChangeSpec.witness6 (enc := enc) (C := Tryz.checked) false ⟨#[], #[.int .i64 0, .int .i64 0, .slice none 0 0], []⟩ 8 (by kernel_rfl) (by kernel_rfl) (by kernel_rfl) (by kernel_rfl)) ?_
 intro W base args ds gs before hval0 hW hcnd hsz _
 have hval : ∀ (j : Nat) t v, Tryz.f3.params[j]? = some t → args[j]? = some v → Value.okWide Tryz.prog W .any base t v := hval0
 refine law_step (C := Tryz.checked) 4 (by kernel_rfl) (by kernel_rfl) Tryz.underlying4 rfl rfl (fun ds hd => ?_) hW ?_
 · match ds, hd with
   | [_, _, _], _ => exact ⟨rfl, rfl, rfl⟩
 obtain ⟨p, q, hA0, hV, rfl, hfz, hnd⟩ := hW
 have hA : DataW.TrodAll enc Tryz.prog W 0 (fun _ => true) true Tryz.f3.params.toList args.toList ds p := hA0
 rw [Tryz.params3] at hA hval
 obtain ⟨v0, vs0, d0, ds0, p0, q0, hargs, rfl, rfl, h0, r0⟩ := trodAll_cons hA
 obtain ⟨v1, vs1, d1, ds1, p1, q1, rfl, rfl, rfl, h1, r1⟩ := trodAll_cons r0
 obtain ⟨v2, vs2, d2, ds2, p2, q2, rfl, rfl, rfl, h2, r2⟩ := trodAll_cons r1
 obtain ⟨rfl, rfl, rfl⟩ := trodAll_nil r2
 obtain rfl : args = #[v0, v1, v2] := by cases args; simp_all
 obtain ⟨a0, rfl, w0⟩ := arg_int Tryz.underlying3 (hval 0 _ v0 rfl rfl) h0
 obtain ⟨a1, rfl, w1⟩ := arg_int Tryz.underlying3 (hval 1 _ v1 rfl rfl) h1
 have hz2 : ∀ n ∈ d2.weights Tryz.prog 22, n ≤ reachBytes := fun n hn => by
  have hm := List.all_eq_true.1 hsz _ (DataW.weights_mem_each (j := 2) (t := 22) (d := d2) (by rw [Tryz.params3]; rfl) rfl n hn)
  simpa using hm
 obtain ⟨a2, w2⟩ := ops20_arg (hval 2 _ v2 rfl rfl) h2 hz2
 exact (sharedPlays_all _ _ _ _ a2 w2).mono fun e w' h => ⟨h.1, h.2.below⟩
end sharedPlays
theorem sharedPlays_holds : Rows.SharedPlaysSaid :=
 OpenClaim.holds_of_wide 3 Tryz.f3 rfl rfl rfl rfl rfl rfl rfl ⟨rfl, rfl, rfl, rfl, rfl⟩ rfl rfl rfl rfl rfl (by kernel_rfl) Tryz.func3 (by kernel_rfl)
  (of_decide_eq_true (by kernel_rfl)) (by unfold Func.isWrapper; first | (rw [if_pos (by decide +kernel)]; kernel_rfl) | (rw [if_neg (by decide +kernel)]; exact ⟨rfl, rfl⟩))
  (fun os started H enc _ => sharedPlays.lifted os started H enc)
#print axioms sharedPlays_holds
end Go.Proofs.YtbhocahmhmafmaaGreat
