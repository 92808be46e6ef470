/-
  The contracts of elem.Bytes, Word. No condition.
-/
import Derived.Test.YtbhocahmhmafmaaGreatPElemAt
namespace Go.Ren
set_option linter.unusedVariables false
theorem conv_u8 (m : Nat) : IntKind.u8.wrap (m : Int) = ((UInt8.ofNat m).toNat : Int) := by
 rw [IntKind.wrap_u8]; simp
theorem u8_u64 (x : UInt8) : IntKind.u64.wrap (x.toNat : Int) = (x.toNat : Int) := u64_wrap_nat (by have := UInt8.toNat_lt x; omega)
theorem one1u (x : Int) : ∀ y ∈ [Value.int .u8 x], y.oneCell' = true := by intro y hy; rw [List.mem_singleton] at hy; subst hy; rfl
end Go.Ren
namespace Go.Proofs.YtbhocahmhmafmaaGreat
open Go.Ren Go.RowKit
set_option linter.unusedVariables false
set_option maxRecDepth 100000 in
set_option maxHeartbeats 800000 in
theorem ebytes_any (w : World) (k : Int) (m : Nat) (hm : m < 18446744073709551616) : Calls Tryz.prog 38 #[.int .i64 k, .int .u64 (m : Int)] w (Copied 5 ((bytesN (szK k) m).map bv) w) := by
 have HM := Lib.hid hm
 clear hm
 have hle := szK_le k
 have hleI : ((szK k : Nat) : Int) ≤ 8 := by omega
 go_enter Tryz.func38, Tryz.ntmps38
 go_wp2_with fail
 refine (esize_any _ k).mono ?_
 rintro e w1 ⟨rfl, rfl⟩
 go_wp2_with fail
 go_loopw [5, 9] (fun s5 s wr => ∃ a : Nat, a ≤ szK k ∧ s = .int .i64 (a : Int) ∧ Own wr 5 1 s5 a ((bytesN a m).map bv) ∧ Ext w1 wr ∧ ∀ q, s5.ownBlock = some q → w1.heap.size ≤ q) (fun _ s _ => szK k - (intOf s).toNat)
 case atStart => exact ⟨0, Nat.zero_le _, rfl, Own.nil _ _ _, Mod.refl _ _, fun q hq => by cases hq⟩
 case round =>
  obtain ⟨a, ha, rfl, ho, xx, hf⟩ := hrel
  have H := Lib.hid (And.intro ho (And.intro xx hf))
  clear ho xx hf
  by_cases hlt : a < szK k
  · have hlt' : (a : Int) < ((szK k : Nat) : Int) := by omega
    have a8 : a < 8 := by omega
    have HV : Hid ((m : Int) / 2 ^ (8 * a) % 256 = ((UInt8.ofNat (m >>> (8 * a))).toNat : Int)) := Lib.hid (by rw [div_shr]; have := conv_u8 (m >>> (8 * a)); rw [IntKind.wrap_u8] at this; exact this)
    go_wp2_with (at_builtin; go_loud (refine wpList_app IB rfl (.tmp 12) (.tmp 18) rfl (H.out.1.ext (Mod.alloc (Mod.refl _ _) _)) (built_sl (n := 1) (g := wr.heap.size) (e := 5) (cs := #[.int .u8 ((m : Int) / 2 ^ (8 * a) % 256)]) (by simp only [heap_alloc_if, if_true]) rfl (by simp only [maxLen]; omega)) (one1u _) (by simp [Act.eval]) (by simp [Act.eval]) (by omega) (by simp only [maxLen]; omega) ?_); intro lv' w2 ol2 gr2 fr2 nn2; have HH := Lib.hid (And.intro ol2 (And.intro gr2 fr2)); clear ol2 gr2 fr2 nn2)
    go_roundw
    case rel =>
     obtain ⟨ol2, gr2, fr2⟩ := HH.out
     have M2 : Mod (fun q => u5.ownBlock = some q) wr w2 := Mod.grown (Mod.alloc (Mod.refl _ _) _) gr2 (fun q h => .inl h)
     exact ⟨a + 1, by omega, by go_num, by rw [HV.out] at ol2; rw [bytesN_succ, List.map_append]; exact ol2, H.out.2.1.trans' M2 (fun q hq => .inr (H.out.2.2 q hq)), fun q hq => by
      rcases fr2 q hq with h | h
      · exact H.out.2.2 q h
      · simp only [World.size_alloc] at h; have := H.out.2.1.size; omega⟩
    case measure => simp [intOf]; omega
  · have hlt' : ¬ (a : Int) < ((szK k : Nat) : Int) := by omega
    have HK : Hid (a = szK k) := Lib.hid (by omega)
    go_wp2_with fail
    go_ret
    have hk2 := HK.out
    subst hk2
    refine ⟨_, rfl, by rw [List.length_map, bytesN_len]; exact H.out.1, H.out.2.1, H.out.2.2⟩
set_option maxRecDepth 100000 in
set_option maxHeartbeats 800000 in
theorem eword_any (w : World) (k : Int) (v : Value) (l : List UInt8) (h : BytesAt w v l) : Calls Tryz.prog 88 #[.int .i64 k, v] w (ChangePost (wordK k l) w) := by
 have l1 := Sl.run_len (P := Tryz.prog) h IB.und 3
 have i1 := Sl.run_idx (P := Tryz.prog) h IB.und IB.size .i64
 by_cases hz : szK k = 0
 · have HC : Hid (wordK k l = (0, false)) := Lib.hid (by unfold wordK; rw [if_pos (.inl hz)])
   have HZ := Lib.hid hz
   clear hz
   go_enter Tryz.func88, Tryz.ntmps88
   go_wp2_with (fail)
   refine (esize_any _ k).mono ?_
   rintro e w1 ⟨rfl, rfl⟩
   rw [HZ.out]
   go_wp2_with fail
   go_ret2
   rw [HC.out]
   exact ⟨rfl, rfl⟩
 · have hz' : (((szK k : Nat) : Int) == 0) = false := by simpa using hz
   by_cases hl : l.length = szK k
   · have HC : Hid (wordK k l = (wordP l l.length, true)) := Lib.hid (by unfold wordK; rw [if_neg (by simp [hz, hl])])
     have hl' : ((l.length : Int) != ((szK k : Nat) : Int)) = false := by rw [hl]; simp
     have h8 : l.length ≤ 8 := by have := szK_le k; omega
     have h8' : (l.length : Int) ≤ 8 := by omega
     clear hz hl
     go_enter Tryz.func88, Tryz.ntmps88
     go_wp2_with (fail)
     refine (esize_any _ k).mono ?_
     rintro e w1 ⟨rfl, rfl⟩
     go_wp2_with fail
     refine (esize_any _ k).mono ?_
     rintro e w1 ⟨rfl, rfl⟩
     go_wp2_with fail
     go_loopw [6, 21] (fun s6 s wr => ∃ a : Nat, a ≤ l.length ∧ s = .int .i64 (a : Int) ∧ s6 = .int .u64 (wordP l a : Int) ∧ wr = w1) (fun _ s _ => l.length - (intOf s).toNat)
     case atStart => exact ⟨0, Nat.zero_le _, rfl, rfl, rfl⟩
     case round =>
      obtain ⟨a, ha, rfl, rfl, rfl⟩ := hrel
      by_cases hlt : a < l.length
      · have hlt' : (a : Int) < (l.length : Int) := by omega
        have j1 := i1 a hlt
        simp only [Nat.mul_one] at j1
        have c1 := Sl.cell h a (bv l[a]) (by simp [hlt])
        have u1 := u8_u64 l[a]
        have hw1 : wordP l a < 18446744073709551616 := Nat.lt_of_lt_of_le (wordP_lt l a (by omega)) (Nat.le_trans (Nat.pow_le_pow_right (by decide) (show 8 * a ≤ 64 by omega)) (by decide))
        have hw2 : l[a].toNat <<< (8 * a) < 18446744073709551616 := by
         have hx : l[a].toNat < 2 ^ 8 := UInt8.toNat_lt _
         rw [Nat.shiftLeft_eq]
         have h1 : l[a].toNat * 2 ^ (8 * a) < 2 ^ 8 * 2 ^ (8 * a) := Nat.mul_lt_mul_of_pos_right hx (Nat.two_pow_pos _)
         rw [← Nat.pow_add] at h1
         exact Nat.lt_of_lt_of_le h1 (Nat.le_trans (Nat.pow_le_pow_right (by decide) (show 8 + 8 * a ≤ 64 by omega)) (by decide))
        have HS : Hid (wordP l (a + 1) = wordP l a ||| (l[a].toNat <<< (8 * a))) := Lib.hid (by simp [wordP, hlt])
        have o1 := bits_or64 hw1 hw2
        have HW2 := Lib.hid hw2
        clear i1 hw1 hw2
        obtain ⟨x, hx⟩ : ∃ x, x = l[a].toNat := ⟨_, rfl⟩
        unfold bv at c1
        rw [← hx] at c1 u1 o1 HS HW2
        clear hx
        have o2 : IntKind.u64.wrap ((x : Int) * 2 ^ (8 * a)) = ((x <<< (8 * a) : Nat) : Int) := by
         have h1 := u64_wrap_nat HW2.out
         rw [Nat.shiftLeft_eq] at h1 ⊢
         simpa using h1
        have HO1 := Lib.hid o1
        clear o1
        go_wp2_with fail
        go_roundw
        case rel => exact ⟨a + 1, by omega, by go_num, by rw [HS.out]; exact congrArg (Value.int .u64) HO1.out, trivial⟩
        case measure => simp [intOf]; omega
      · have hlt' : ¬ (a : Int) < (l.length : Int) := by omega
        have HK : Hid (a = l.length) := Lib.hid (by omega)
        clear i1
        go_wp2_with fail
        go_ret2
        rw [HC.out, HK.out]
        exact ⟨rfl, rfl⟩
   · have HC : Hid (wordK k l = (0, false)) := Lib.hid (by unfold wordK; rw [if_pos (.inr hl)])
     have hl' : ((l.length : Int) != ((szK k : Nat) : Int)) = true := by rw [bne_iff_ne]; omega
     clear hz hl i1
     go_enter Tryz.func88, Tryz.ntmps88
     go_wp2_with (fail)
     refine (esize_any _ k).mono ?_
     rintro e w1 ⟨rfl, rfl⟩
     go_wp2_with fail
     refine (esize_any _ k).mono ?_
     rintro e w1 ⟨rfl, rfl⟩
     go_wp2_with fail
     go_ret2
     rw [HC.out]
     exact ⟨rfl, rfl⟩
end Go.Proofs.YtbhocahmhmafmaaGreat
