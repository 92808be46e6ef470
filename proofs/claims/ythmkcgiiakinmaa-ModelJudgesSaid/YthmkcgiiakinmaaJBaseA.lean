/-
  Small tools; the library's clones. No condition. The contracts of renref.Ints, renref.CopyInts. No condition.
-/
import Derived.Test.YthmkcgiiakinmaaProg
import Derived.Test.YthmkcgiiakinmaaJLib
import Derived.Lib.Hide
import Derived.Outline
namespace Go.Proofs.Ythmkcgiiakinmaa
open Go.Ren Go.RowKit
theorem IB : EInfo Try.prog 42 5 1 1 (.int .u8 0) := ⟨Try.underlying42, by kernel_rfl, rfl, by decide⟩
theorem II : EInfo Try.prog 43 3 1 8 (.int .i64 0) := ⟨Try.underlying43, by kernel_rfl, rfl, by decide⟩

theorem take_step {α : Type} {a b : List α} {k : Nat} (h : a.take k = b.take k) (ha : k < a.length) (hb : k < b.length) (hx : a[k] = b[k]) : a.take (k + 1) = b.take (k + 1) := by
  rw [List.take_succ_eq_append_getElem ha, List.take_succ_eq_append_getElem hb, h, hx]
theorem ret_bool {a b : Bool} (h : a = b) : Ending.returned (.bool a) = .returned (.bool b) := by rw [h]

theorem nil_of {w : World} {v : Value} {sz n : Nat} {xs : List Value} (h : Sl w v sz n xs) (hv : nilS v = true) : n = 0 := by
  obtain ⟨a, c, rfl, _, _, h3⟩ := h.shape
  cases a with
  | none => exact (h3 rfl).1
  | some p => cases hv
theorem own_empty (w : World) (e : TypeId) : Own (w.alloc (.cells #[] e)) e 1 (.slice (some ⟨w.heap.size, 0, none⟩) 0 0) 0 [] := Own.made w #[] e 1 0 (by simp [maxLen]) rfl

/-- What a copy is: a row of its own. -/
def Copied (e : TypeId) (xs : List Value) (w : World) (en : Ending) (w' : World) : Prop := ∃ v', en = .returned v' ∧ Own w' e 1 v' xs.length xs ∧ Ext w w' ∧ (∀ k, v'.ownBlock = some k → w.heap.size ≤ k)

theorem clone_bytes (w : World) (v : Value) (l : List UInt8) (h : BytesAt w v l) (hl : l.length ≤ 1000000) :
    Calls Try.prog 95 #[v] w (Copied 5 (l.map bv) w) := by
  have hnil := Sl.run_nil (P := Try.prog) h IB.und
  have hg := run_guard_nil (P := Try.prog) v
  cases hv : nilS v with
  | true =>
    rw [hv] at hnil
    have hl : l = [] := List.eq_nil_of_length_eq_zero (nil_of h hv)
    subst hl
    clear hv
    go_enter Try.func95, Try.ntmps95
    go_wp2
    go_ret
    exact ⟨_, rfl, Own.nil _ _ _, Mod.refl _ _, fun k hk => by cases hk⟩
  | false =>
    rw [hv] at hnil
    clear hv
    go_enter Try.func95, Try.ntmps95
    go_wp2_with (at_builtin; refine wpList_app IB rfl (.tmp 5) (.tmp 6) rfl (own_empty _ _) (h.ext ((Mod.refl _ _).alloc _)) (one_bv l) rfl rfl (by omega) (by simp only [maxLen]; omega) ?_; intro v' w' ho hgr hfr hnn)
    go_ret
    refine ⟨_, rfl, by simpa using ho, ((Mod.refl _ w).alloc _).grown hgr (by intro k hk; simp [Value.ownBlock] at hk; right; omega), fun k hk => ?_⟩
    rcases hfr k hk with h1 | h1
    · simp [Value.ownBlock] at h1; omega
    · simp at h1; omega
theorem clone_ints (w : World) (v : Value) (l : List Int) (h : IntsAt w v l) (hl : l.length ≤ 1000000) :
    Calls Try.prog 96 #[v] w (Copied 3 (l.map iv) w) := by
  have hnil := Sl.run_nil (P := Try.prog) h.sl II.und
  have hg := run_guard_nil (P := Try.prog) v
  cases hv : nilS v with
  | true =>
    rw [hv] at hnil
    have hl : l = [] := List.eq_nil_of_length_eq_zero (nil_of h.sl hv)
    subst hl
    clear hv
    go_enter Try.func96, Try.ntmps96
    go_wp2
    go_ret
    exact ⟨_, rfl, Own.nil _ _ _, Mod.refl _ _, fun k hk => by cases hk⟩
  | false =>
    rw [hv] at hnil
    clear hv
    go_enter Try.func96, Try.ntmps96
    go_wp2_with (at_builtin; refine wpList_app II rfl (.tmp 5) (.tmp 6) rfl (own_empty _ _) (h.sl.ext (by decide) ((Mod.refl _ _).alloc _)) (one_iv l) rfl rfl (by omega) (by simp only [maxLen]; omega) ?_; intro v' w' ho hgr hfr hnn)
    go_ret
    refine ⟨_, rfl, by simpa using ho, ((Mod.refl _ w).alloc _).grown hgr (by intro k hk; simp [Value.ownBlock] at hk; right; omega), fun k hk => ?_⟩
    rcases hfr k hk with h1 | h1
    · simp [Value.ownBlock] at h1; omega
    · simp at h1; omega
end Go.Proofs.Ythmkcgiiakinmaa
namespace Go.Proofs.Ythmkcgiiakinmaa
open Go.Ren Go.RowKit
theorem ints_any (w : World) (v1 v2 : Value) (a b : List Int) (h1 : IntsAt w v1 a) (h2 : IntsAt w v2 b) :
    Calls Try.prog 49 #[v1, v2] w fun e w' => e = .returned (.bool (a == b)) ∧ ∃ n, w' = w.drewN n := by
  have l1 := h1.sl.run_len (P := Try.prog) II.und 3
  have l2 := h2.sl.run_len (P := Try.prog) II.und 3
  have i1 := h1.sl.run_idx (P := Try.prog) II.und II.size .i64
  have i2 := h2.sl.run_idx (P := Try.prog) II.und II.size .i64
  have hm : (a.length : Int) ≤ 9223372036854775807 := by obtain ⟨_, c, _, q1, q2, _⟩ := h1.sl.shape; simp only [maxLen] at q2; omega
  by_cases hl : a.length = b.length
  case neg =>
    have ht : ((a.length : Int) != (b.length : Int)) = true := by rw [bne_iff_ne]; omega
    have he : (a == b) = false := beq_eq_false_iff_ne.2 (fun e => hl (by rw [e]))
    rw [he]
    clear i1 i2 he hl
    go_enter Try.func49, Try.ntmps49
    go_wp2
    go_ret
    exact ⟨rfl, 0, rfl⟩
  case pos =>
    have ht : ((a.length : Int) != (b.length : Int)) = false := by rw [bne_eq_false_iff_eq]; omega
    have HL := Lib.hid hl; clear hl
    go_enter Try.func49, Try.ntmps49
    go_wp2
    go_loopw [5] (fun i wr => ∃ k : Nat, k ≤ a.length ∧ i = .int .i64 k ∧ a.take k = b.take k ∧ ∃ n, wr = w.drewN n) (fun i _ => a.length - (intOf i).toNat)
    case atStart => exact ⟨0, Nat.zero_le _, rfl, rfl, 0, rfl⟩
    case round =>
      obtain ⟨k, hk, rfl, hp, n, rfl⟩ := hrel
      have HP := Lib.hid hp; clear hp
      by_cases hlt : k < a.length
      · have hlt2 : k < b.length := by have := HL.out; omega
        have c1 := h1.cell hlt
        have c2 := h2.cell hlt2
        have j1 := i1 k hlt
        have j2 := i2 k hlt2
        simp only [Nat.mul_one] at j1 j2
        have hlt' : (k : Int) < (a.length : Int) := by omega
        clear i1 i2
        by_cases hx : a[k] = b[k]
        · have hxx : (a[k] != b[k]) = false := by rw [hx]; simp
          have HX := Lib.hid hx; clear hx
          go_wp2
          go_quiet (fail)
          go_wp2
          go_roundw
          case rel => exact ⟨k + 1, by omega, by go_num, take_step HP.out hlt hlt2 HX.out, _, rfl⟩
          case measure => simp [intOf]; omega
        · have hxx : (a[k] != b[k]) = true := by rw [bne_iff_ne]; exact hx
          have he : (a == b) = false := beq_eq_false_iff_ne.2 (fun e => hx (by subst e; rfl))
          have HE := Lib.hid he; clear he hx
          go_wp2
          go_quiet (fail)
          go_wp2
          go_ret
          exact ⟨ret_bool HE.out.symm, n + nq, by simp [World.drewN, Nat.add_assoc]⟩
      · have hlt' : ¬ (k : Int) < (a.length : Int) := by omega
        have he : (a == b) = true := by
          have h3 := HP.out
          rw [List.take_of_length_le (by omega), List.take_of_length_le (by have := HL.out; omega)] at h3
          rw [h3]; simp
        have HE := Lib.hid he; clear he i1 i2
        go_wp2
        go_ret
        exact ⟨ret_bool HE.out.symm, _, rfl⟩

/-! ### Copies: a row of the callee's own -/
theorem copy_ints (w : World) (v : Value) (l : List Int) (h : IntsAt w v l) (hl : l.length ≤ 1000000) :
    Calls Try.prog 38 #[v] w (Copied 3 (l.map iv) w) := by
  go_enter Try.func38, Try.ntmps38
  go_wp2_with (at_builtin; refine wpList_app II rfl (.tmp 3) (.tmp 4) rfl (own_empty _ _) (h.sl.ext (by decide) ((Mod.refl _ _).alloc _)) (one_iv l) rfl rfl (by omega) (by simp only [maxLen]; omega) ?_; intro v' w' ho hgr hfr hnn)
  go_ret
  refine ⟨_, rfl, by simpa using ho, ((Mod.refl _ w).alloc _).grown hgr (by intro k hk; simp [Value.ownBlock] at hk; right; omega), fun k hk => ?_⟩
  rcases hfr k hk with h1 | h1
  · simp [Value.ownBlock] at h1; omega
  · simp at h1; omega
end Go.Proofs.Ythmkcgiiakinmaa
