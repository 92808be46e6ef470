/-
  The contract of renlaw18.Same: where both stand alike it answers true. No condition.
-/
import Derived.Test.YtnnciakdeoopaaaRefWrite
import Derived.Test.YtnnciakdeoopaaaBlkBytes
import Derived.BigQuiet
namespace Go.Proofs.Ytnnciakdeoopaaa
open Go.Ren Go.RowKit
set_option linter.unusedVariables false

theorem breadY_ok {m : List Blk} (h : BOk m) {k a n : Int} : ∀ x ∈ breadY m k a n, I64 x := by
  intro x hx
  unfold breadY at hx
  split at hx
  · rename_i h0
    obtain ⟨q1, q2, _⟩ := bcheck_0 h0
    exact h.ok k.toNat (by omega) x (by unfold cut at hx; exact List.mem_of_mem_drop (List.mem_of_mem_take hx))
  · cases hx

set_option maxRecDepth 100000 in
theorem same_any (w : World) (p q : Value) (m : List Blk) (S T : Nat → Prop) (h : BlocksAt w p m S) (hx : RefAt w q m T) :
    Calls Try.prog 31 #[p, q] w fun e w' => e = .returned (.bool true) ∧ Ext w w' := by
  obtain ⟨px, lb, ly, V, Y, rfl, hin, hT⟩ := hx.ex
  have HX := Lib.hid hx
  have HB := Lib.hid h
  have c0 := hin.c0
  have l0 := hin.rb.sl.run_len (P := Try.prog) IBB.und 3
  have hok := Lib.hid hin.ok
  have hcnt := hin.ok.cnt
  clear hin hT hx h
  go_enter Try.func31, Try.ntmps31
  go_wp2_with fail
  have hS : ∀ w', Ext w w' → w'.cell? ⟨px, 0, none⟩ = some lb := fun w' h => h.cell c0
  go_region_held3 (fun w' => w'.cell? ⟨px, 0, none⟩ = some lb ∧ Ext w w') (first | exact ⟨hS _ E3, E3⟩ | exact ⟨hS _ E2, E2⟩ | exact ⟨hS _ E1, E1⟩ | exact ⟨c0, (Mod.refl _ _).drew⟩) (first | (go_at_call 23; refine (len_any _ _ _ _ (HB.out.ext (And.right (by assumption)))).mono ?_; rintro e w0 ⟨rfl, rfl⟩) | (go_at_call 25; refine (all_any _ _ _ _ (HB.out.ext (And.right (by assumption)))).mono ?_; rintro e w1 ⟨v1, V1, rfl, r1, x1⟩; have E1 : Ext w w1 := Mod.trans (And.right ‹_ ∧ Ext w _›) x1) | (go_at_call 54; refine (rall_any _ _ _ _ (HX.out.ext (And.right (by assumption)))).mono ?_; rintro e w2 ⟨v2, V2, rfl, r2, x2⟩; have E2 : Ext w w2 := Mod.trans (And.right ‹_ ∧ Ext w _›) x2) | (go_at_call 53; refine (sameBytes_any _ _ _ _ _ _ _ (r1.ext x2) r2 (by omega)).mono ?_; rintro e w3 ⟨rfl, j, rfl⟩; have E3 : Ext w (w2.drewN j) := E2.drewN j))
  go_wp2_with fail
  have X0 : Ext w (w2.drewN j) := E3
  obtain ⟨w4, hw4⟩ : ∃ w4, w4 = w2.drewN j := ⟨_, rfl⟩
  rw [← hw4] at X0 ⊢
  clear hw4 E1 E2 E3 x1 x2 r1 r2
  go_loopw [5] (fun s5 wr => ∃ i : Int, -1 ≤ i ∧ i ≤ m.length + 1 ∧ s5 = .int .i64 i ∧ Ext w wr) (fun i _ => (m.length + 2 - intOf i).toNat)
  case atStart => exact ⟨-1, by omega, by omega, rfl, X0⟩
  case round =>
    obtain ⟨i, hi, hi2, rfl, x⟩ := hrel
    have cr := x.cell c0
    by_cases hle : i ≤ m.length
    · have B := HB.out.ext x
      have R := HX.out.ext x
      go_wp2_with fail
      refine (size_any _ _ _ _ B _).mono ?_
      rintro e w5 ⟨rfl, rfl⟩
      go_wp2_with fail
      refine (rsize_any _ _ _ _ R _).mono ?_
      rintro e w5 ⟨rfl, rfl⟩
      go_wp2_with fail
      all_goals
        refine (read_any _ _ _ _ B _ _ _).mono ?_
        rintro e w5 ⟨v5, y5, rfl, ov5, oy5, x5, fv5, fy5⟩
        have R5 := R.ext x5
        go_wp2_with fail
        refine (rread_any _ _ _ _ R5 _ _ _).mono ?_
        rintro e w6 ⟨v6, y6, rfl, ov6, oy6, x6, fv6, fy6⟩
        have ov7 := ov5.ext x6
        have oy7 := oy5.ext x6
        have X6 := (x.trans x5).trans x6
        clear fv5 fy5 fv6 fy6 ov5 oy5 x5 x6 B R R5
        go_wp2_with fail
        refine (bytes_any _ _ _ _ _ ov7.sl ov6.sl).mono ?_
        rintro e w7 ⟨rfl, rfl⟩
        rw [beq_self_eq_true]
        go_wp2_with fail
        refine (ints_any _ _ _ _ _ ⟨oy7.sl, breadY_ok hok.out⟩ ⟨oy6.sl, breadY_ok hok.out⟩).mono ?_
        rintro e w7 ⟨rfl, n7, rfl⟩
        rw [beq_self_eq_true]
        have X7 := Lib.hid (X6.drewN n7)
        clear X6 ov6 ov7 oy6 oy7
        go_wp2_with fail
        go_roundw
        case rel => exact ⟨i + 1, by omega, by omega, by go_num, X7.out⟩
        case measure => simp [intOf]; omega
    · go_wp2_with fail
      go_ret
      exact ⟨rfl, x⟩
end Go.Proofs.Ytnnciakdeoopaaa
