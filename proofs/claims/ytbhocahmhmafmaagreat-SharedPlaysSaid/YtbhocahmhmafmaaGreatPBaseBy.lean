/-
  The contracts of renref.CopyBytes. No condition. The contracts of renref.Ints, renref.CopyInts. No condition.
-/
import Derived.Test.YtbhocahmhmafmaaGreatPBaseA
namespace Go.Proofs.YtbhocahmhmafmaaGreat
open Go.Ren Go.RowKit
theorem copy_bytes (w : World) (v : Value) (l : List UInt8) (h : BytesAt w v l) (hl : l.length ≤ 1000000) :
 Calls Tryz.prog 122 #[v] w (Copied 5 (l.map bv) w) := by
 go_enter Tryz.func122, Tryz.ntmps122
 go_wp2_with (at_builtin; refine wpList_app IB rfl (.tmp 3) (.tmp 4) rfl (own_empty _ _) (h.ext ((Mod.refl _ _).alloc _)) (one_bv l) rfl rfl (by omega) (by simp only [maxLen]; omega) ?_; intro v' w' ho hgr hfr hnn)
 go_ret
 refine ⟨_, rfl, by simpa using ho, ((Mod.refl _ w).alloc _).grown hgr (by intro k hk; simp [Value.ownBlock] at hk; right; omega), fun k hk => ?_⟩
 rcases hfr k hk with h1 | h1
 · simp [Value.ownBlock] at h1; omega
 · simp at h1; omega
end Go.Proofs.YtbhocahmhmafmaaGreat
namespace Go.Proofs.YtbhocahmhmafmaaGreat
open Go.Ren Go.RowKit
theorem ints_any (w : World) (v1 v2 : Value) (a b : List Int) (h1 : IntsAt w v1 a) (h2 : IntsAt w v2 b) :
 Calls Tryz.prog 153 #[v1, v2] w fun e w' => e = .returned (.bool (a == b)) ∧ ∃ n, w' = w.drewN n := by
 have l1 := h1.sl.run_len (P := Tryz.prog) II.und 3
 have l2 := h2.sl.run_len (P := Tryz.prog) II.und 3
 have i1 := h1.sl.run_idx (P := Tryz.prog) II.und II.size .i64
 have i2 := h2.sl.run_idx (P := Tryz.prog) II.und II.size .i64
 have hm : (a.length : Int) ≤ 9223372036854775807 := by obtain ⟨_, c, _, q1, q2, _⟩ := h1.sl.shape; simp only [maxLen] at q2; omega
 by_cases hl : a.length = b.length
 case neg =>
  have ht : ((a.length : Int) != (b.length : Int)) = true := by rw [bne_iff_ne]; omega
  have he : (a == b) = false := beq_eq_false_iff_ne.2 (fun e => hl (by rw [e]))
  rw [he]
  clear i1 i2 he hl
  go_enter Tryz.func153, Tryz.ntmps153
  go_wp2
  go_ret
  exact ⟨rfl, 0, rfl⟩
 case pos =>
  have ht : ((a.length : Int) != (b.length : Int)) = false := by rw [bne_eq_false_iff_eq]; omega
  have HL := Lib.hid hl; clear hl
  go_enter Tryz.func153, Tryz.ntmps153
  go_wp2
  go_loopw [5] (fun i wr => ∃ k : Nat, k ≤ a.length ∧ i = .int .i64 k ∧ a.take k = b.take k ∧ ∃ n, wr = w.drewN n) (fun i _ => a.length - (intOf i).toNat)
  case atStart => exact ⟨0, Nat.zero_le _, rfl, rfl, 0, rfl⟩
  case round =>
   obtain ⟨k, hk, rfl, hp, n, rfl⟩ := hrel
   have HP := Lib.hid hp; clear hp
   by_cases hlt : k < a.length
   · have hlt2 : k < b.length := by have := HL.out; omega
     have c1 := h1.cell hlt
     have c2 := h2.cell hlt2
     have j1 := i1 k hlt
     have j2 := i2 k hlt2
     simp only [Nat.mul_one] at j1 j2
     have hlt' : (k : Int) < (a.length : Int) := by omega
     clear i1 i2
     by_cases hx : a[k] = b[k]
     · have hxx : (a[k] != b[k]) = false := by rw [hx]; simp
       have HX := Lib.hid hx; clear hx
       go_wp2
       go_quiet (fail)
       go_wp2
       go_roundw
       case rel => exact ⟨k + 1, by omega, by go_num, take_step HP.out hlt hlt2 HX.out, _, rfl⟩
       case measure => simp [intOf]; omega
     · have hxx : (a[k] != b[k]) = true := by rw [bne_iff_ne]; exact hx
       have he : (a == b) = false := beq_eq_false_iff_ne.2 (fun e => hx (by subst e; rfl))
       have HE := Lib.hid he; clear he hx
       go_wp2
       go_quiet (fail)
       go_wp2
       go_ret
       exact ⟨ret_bool HE.out.symm, n + nq, by simp [World.drewN, Nat.add_assoc]⟩
   · have hlt' : ¬ (k : Int) < (a.length : Int) := by omega
     have he : (a == b) = true := by
      have h3 := HP.out
      rw [List.take_of_length_le (by omega), List.take_of_length_le (by have := HL.out; omega)] at h3
      rw [h3]; simp
     have HE := Lib.hid he; clear he i1 i2
     go_wp2
     go_ret
     exact ⟨ret_bool HE.out.symm, _, rfl⟩
theorem copy_ints (w : World) (v : Value) (l : List Int) (h : IntsAt w v l) (hl : l.length ≤ 1000000) :
 Calls Tryz.prog 152 #[v] w (Copied 3 (l.map iv) w) := by
 go_enter Tryz.func152, Tryz.ntmps152
 go_wp2_with (at_builtin; refine wpList_app II rfl (.tmp 3) (.tmp 4) rfl (own_empty _ _) (h.sl.ext (by decide) ((Mod.refl _ _).alloc _)) (one_iv l) rfl rfl (by omega) (by simp only [maxLen]; omega) ?_; intro v' w' ho hgr hfr hnn)
 go_ret
 refine ⟨_, rfl, by simpa using ho, ((Mod.refl _ w).alloc _).grown hgr (by intro k hk; simp [Value.ownBlock] at hk; right; omega), fun k hk => ?_⟩
 rcases hfr k hk with h1 | h1
 · simp [Value.ownBlock] at h1; omega
 · simp at h1; omega
end Go.Proofs.YtbhocahmhmafmaaGreat
