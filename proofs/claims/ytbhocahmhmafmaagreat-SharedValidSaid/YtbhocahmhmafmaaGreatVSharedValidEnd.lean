/-
  SharedValid: the law renlaw20.SharedValid returns true. No condition.
-/
import Derived.Test.YtbhocahmhmafmaaGreatVSharedValid
import Derived.Test.YtbhocahmhmafmaaGreatVFrame
import Derived.SizedLaws
namespace Go.Proofs.YtbhocahmhmafmaaGreat
open Go.Ren Go.ChangeShapes Go.WideShapes Go.ChangeAt Go.RowKit
set_option linter.unusedVariables false
namespace sharedValid
theorem own : ownKnob Tryz.prog.godebug = none := by kernel_rfl
set_option maxRecDepth 100000 in
theorem lifted (os : Go.Os) (started : os.Started) (H : Type) (enc : TypeId × Value → H) :
 ReturnsInHanded {} Tryz.checked os 5 .any (Rows.sharedValidSpec.pre6 enc Tryz.prog Tryz.f5 Rows.sharedValidRow.domain false) (Rows.sharedValidSpec.post enc Tryz.prog Tryz.f5 false true false false) := by
 refine returnsInHanded_of_change_sized (C := Tryz.checked) own started (by kernel_rfl) Tryz.func5
  (ChangeSpec.witness6 (enc := enc) (C := Tryz.checked) false ⟨#[], #[.int .i64 0, .int .i64 0, .slice none 0 0], []⟩ 8 (by kernel_rfl) (by kernel_rfl) (by kernel_rfl) (by kernel_rfl)) ?_
 intro W base args ds gs before hval0 hW hcnd hsz _
 have hval : ∀ (j : Nat) t v, Tryz.f5.params[j]? = some t → args[j]? = some v → Value.okWide Tryz.prog W .any base t v := hval0
 refine law_step (C := Tryz.checked) 4 (by kernel_rfl) (by kernel_rfl) Tryz.underlying4 rfl rfl (fun ds hd => ?_) hW ?_
 · match ds, hd with
   | [_, _, _], _ => exact ⟨rfl, rfl, rfl⟩
 obtain ⟨p, q, hA0, hV, rfl, hfz, hnd⟩ := hW
 have hA : DataW.TrodAll enc Tryz.prog W 0 (fun _ => true) true Tryz.f5.params.toList args.toList ds p := hA0
 rw [Tryz.params5] at hA hval
 obtain ⟨v0, vs0, d0, ds0, p0, q0, hargs, rfl, rfl, h0, r0⟩ := trodAll_cons hA
 obtain ⟨v1, vs1, d1, ds1, p1, q1, rfl, rfl, rfl, h1, r1⟩ := trodAll_cons r0
 obtain ⟨v2, vs2, d2, ds2, p2, q2, rfl, rfl, rfl, h2, r2⟩ := trodAll_cons r1
 obtain ⟨rfl, rfl, rfl⟩ := trodAll_nil r2
 obtain rfl : args = #[v0, v1, v2] := by cases args; simp_all
 obtain ⟨a0, rfl, w0⟩ := arg_int Tryz.underlying3 (hval 0 _ v0 rfl rfl) h0
 obtain ⟨a1, rfl, w1⟩ := arg_int Tryz.underlying3 (hval 1 _ v1 rfl rfl) h1
 have hz2 : ∀ n ∈ d2.weights Tryz.prog 22, n ≤ reachBytes := fun n hn => by
  have hm := List.all_eq_true.1 hsz _ (DataW.weights_mem_each (j := 2) (t := 22) (d := d2) (by rw [Tryz.params5]; rfl) rfl n hn)
  simpa using hm
 obtain ⟨a2, w2⟩ := ops20_arg (hval 2 _ v2 rfl rfl) h2 hz2
 exact (sharedValid_all _ _ _ _ a2 w2).mono fun e w' h => ⟨h.1, h.2.below⟩
end sharedValid
theorem sharedValid_holds : Rows.SharedValidSaid :=
 OpenClaim.holds_of_wide 5 Tryz.f5 rfl rfl rfl rfl rfl rfl rfl ⟨rfl, rfl, rfl, rfl, rfl⟩ rfl rfl rfl rfl rfl (by kernel_rfl) Tryz.func5 (by kernel_rfl)
  (of_decide_eq_true (by kernel_rfl)) (by unfold Func.isWrapper; first | (rw [if_pos (by decide +kernel)]; kernel_rfl) | (rw [if_neg (by decide +kernel)]; exact ⟨rfl, rfl⟩))
  (fun os started H enc _ => sharedValid.lifted os started H enc)
#print axioms sharedValid_holds
end Go.Proofs.YtbhocahmhmafmaaGreat
