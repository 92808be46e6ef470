/-
  The contract of renref24.SameBytes: where both are alike it answers true. No condition.
-/
import Derived.Test.YtnnciakdeoopaaaBlkAll
import Derived.Test.YtnnciakdeoopaaaBaseByt
import Derived.BigQuiet
namespace Go.Proofs.Ytnnciakdeoopaaa
open Go.Ren Go.RowKit
set_option linter.unusedVariables false

set_option maxRecDepth 100000 in
theorem sameBytes_any (w : World) (v1 v2 : Value) (V1 V2 : Nat → Value) (n : Nat) (L : Nat → List UInt8) (h1 : RowsIn w v1 V1 n L) (h2 : RowsIn w v2 V2 n L) (hn : n ≤ 1000000) :
    Calls Try.prog 53 #[v1, v2] w fun e w' => e = .returned (.bool true) ∧ ∃ k, w' = w.drewN k := by
  have l1 := h1.row.sl.run_len (P := Try.prog) IBB.und 3
  have l2 := h2.row.sl.run_len (P := Try.prog) IBB.und 3
  go_enter Try.func53, Try.ntmps53
  go_wp2_with fail
  go_loopw [5] (fun s5 wr => ∃ k j : Nat, k ≤ n ∧ s5 = .int .i64 (k : Int) ∧ wr = w.drewN j) (fun i _ => n - (intOf i).toNat)
  case atStart => exact ⟨0, 0, Nat.zero_le _, rfl, rfl⟩
  case round =>
    obtain ⟨k, j, hk, rfl, rfl⟩ := hrel
    by_cases hlt : k < n
    · have hlt' : (k : Int) < (n : Int) := by omega
      have i1 := h1.row.sl.run_idx (P := Try.prog) IBB.und IBB.size .i64 k hlt
      have i2 := h2.row.sl.run_idx (P := Try.prog) IBB.und IBB.size .i64 k hlt
      simp only [Nat.mul_one] at i1 i2
      obtain ⟨W, hW⟩ : ∃ W, W = w.drewN j := ⟨_, rfl⟩
      have xW : Ext w W := by rw [hW]; exact (Mod.refl _ _).drewN j
      have c1 := xW.cell (h1.cell hlt)
      have c2 := xW.cell (h2.cell hlt)
      have b1 := (h1.bs k hlt).ext xW
      have b2 := (h2.bs k hlt).ext xW
      rw [← hW]
      have HS : ∀ a, Calls Try.prog 16 #[V1 k, V2 k] (W.drewN a) fun e w' => e = .returned (.bool true) ∧ w' = W.drewN a := by
        intro a
        have xx : Ext W (W.drewN a) := (Mod.refl _ _).drewN a
        refine (bytes_any _ _ _ (L k) (L k) (b1.ext xx).sl (b2.ext xx).sl).mono ?_
        rintro e w' ⟨rfl, rfl⟩
        exact ⟨by rw [beq_self_eq_true], rfl⟩
      have HH := Lib.hid HS
      have HW := Lib.hid hW
      clear HS b1 b2 hW
      go_wp2_with fail
      go_quiet (exact Calls.quiet_of_same (HH.out _))
      go_wp2_with fail
      go_roundw
      case rel => exact ⟨k + 1, j + nq, by omega, by go_num, by rw [HW.out, World.drewN_drewN]⟩
      case measure => simp [intOf]; omega
    · have hlt' : ¬ (k : Int) < (n : Int) := by omega
      go_wp2_with fail
      go_ret
      exact ⟨rfl, _, rfl⟩
end Go.Proofs.Ytnnciakdeoopaaa
