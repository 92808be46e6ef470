/-
  The contract of renref3.Word. No condition.
-/
import Derived.Test.YtbhocahmhmafmaaGreatPBaseA
import Derived.Test.YtbhocahmhmafmaaGreatPBlkLaw
namespace Go.Ren
theorem u8_u64w (x : UInt8) : IntKind.u64.wrap (x.toNat : Int) = (x.toNat : Int) := u64_wrap_nat (by have := UInt8.toNat_lt x; omega)
end Go.Ren
namespace Go.Proofs.YtbhocahmhmafmaaGreat
open Go.Ren Go.RowKit
set_option linter.unusedVariables false
set_option maxRecDepth 100000 in
set_option maxHeartbeats 800000 in
theorem rword_any (w : World) (v : Value) (l : List UInt8) (h : BytesAt w v l) (hl : l.length ≤ 8) :
 Calls Tryz.prog 110 #[v] w fun e w' => e = .returned (.int .u64 (wordN l : Int)) ∧ w' = w := by
 have hle : (l.length : Int) ≤ 8 := by omega
 have l1 := Sl.run_len (P := Tryz.prog) h IB.und 3
 have HI := Lib.hid (Sl.run_idx (P := Tryz.prog) h IB.und IB.size .i64)
 have y0 : IntKind.i64.wrap ((l.length : Int) - 1) = (l.length : Int) - 1 := IntWalk.i64_in _ (by omega)
 have HH := Lib.hid h
 clear h
 go_enter Tryz.func110, Tryz.ntmps110
 go_wp2_with fail
 go_loopw [3, 4] (fun s3 s wr => ∃ k : Nat, k ≤ l.length ∧ s = .int .i64 ((k : Int) - 1) ∧ s3 = .int .u64 (wordN (l.drop k) : Int) ∧ wr = w) (fun _ s _ => (intOf s + 1).toNat)
 case atStart => exact ⟨l.length, Nat.le_refl _, rfl, by rw [List.drop_length]; rfl, rfl⟩
 case round =>
  obtain ⟨k, hk, hs, rfl, rfl⟩ := hrel
  obtain ⟨M, hM⟩ : ∃ M, M = wordN (l.drop k) := ⟨_, rfl⟩
  rw [← hM]
  rcases Nat.eq_zero_or_pos k with h0 | hpos
  · subst h0
    rw [show (((0 : Nat) : Int) - 1) = -1 by omega] at hs
    subst hs
    have HM := Lib.hid hM
    clear hM
    go_wp2_with fail
    go_ret
    rw [HM.out]
    exact ⟨rfl, rfl⟩
  · obtain ⟨j, rfl⟩ : ∃ j, k = j + 1 := ⟨k - 1, by omega⟩
    rw [show (((j + 1 : Nat) : Int) - 1) = (j : Int) by omega] at hs
    subst hs
    have hjl : j < l.length := by omega
    have j8 : (j : Int) < 8 := by omega
    have j1 := HI.out j hjl
    simp only [Nat.mul_one] at j1
    have hM56 : M < 2 ^ 56 := by
     rw [hM]
     refine Nat.lt_of_lt_of_le (wordN_lt _) (Nat.pow_le_pow_right (by decide) ?_)
     rw [List.length_drop]; omega
    have HS : Hid (wordN (l.drop j) = l[j].toNat + 256 * M) := Lib.hid (by rw [hM]; exact wordN_drop hjl)
    obtain ⟨x, hx⟩ : ∃ x, x = l[j].toNat := ⟨_, rfl⟩
    have c1 := HH.out.cell hjl
    have u1 := u8_u64w l[j]
    have hxl := UInt8.toNat_lt l[j]
    rw [← hx] at c1 u1 HS hxl
    have o1 : IntKind.u64.wrap ((M : Int) * 256) = (M : Int) * 256 := by rw [IntKind.wrap_u64]; omega
    have o2 : IntKind.u64.wrap ((M : Int) * 256 + (x : Int)) = (M : Int) * 256 + (x : Int) := by rw [IntKind.wrap_u64]; omega
    clear hM hx hxl hM56
    go_wp2_with fail
    go_roundw
    case rel => exact ⟨j, by omega, by go_num, by rw [HS.out]; congr 1; push_cast; omega, trivial⟩
    case measure => (simp [intOf]; try omega)
end Go.Proofs.YtbhocahmhmafmaaGreat
