/-
  BlockBounds: for every size, place and number the law renlaw18.BlockBounds returns true, without a panic, and leaves its arguments as they were. No condition.
-/
import Derived.Test.YtnnciakdeoopaaaBlkFirst
import Derived.Test.YtnnciakdeoopaaaFrame
namespace Go.Proofs.Ytnnciakdeoopaaa
open Go.Ren Go.RowKit

theorem bounds_E (size : Int) : (bmakeE [] size = 0 ↔ 0 ≤ size ∧ size ≤ 256) := by
  unfold bmakeE; simp
theorem bounds_C (z : Nat) (hz : z ≤ 256) (a n : Int) : bcheck [newBlk z] 0 a n = if 0 ≤ a ∧ 0 ≤ n ∧ a ≤ z ∧ n ≤ z - a then 0 else 1 := by
  have hs : bsize [newBlk z] 0 = z := by unfold bsize; simp [blk, newBlk]
  unfold bcheck
  rw [hs, if_neg (by omega)]
  by_cases h : 0 ≤ a ∧ 0 ≤ n ∧ a ≤ z ∧ n ≤ z - a
  · rw [if_pos h, if_neg (by omega)]
  · rw [if_neg h, if_pos (by omega)]

set_option maxRecDepth 100000 in
theorem bounds_err (size a n : Int) (hn : n ≤ 1000) (h0 : ¬ bmakeE [] size = 0) (w : World) :
    Calls Try.prog 6 #[.int .i64 size, .int .i64 a, .int .i64 n] w fun e w' => e = .returned (.bool true) ∧ Ext w w' := by
  have hne : (bmakeE [] size != 0) = true := by rw [bne_iff_ne]; exact h0
  have hs : size < 0 ∨ 256 < size := by rcases Decidable.em (bmakeE [] size = 0) with h | h; exact absurd h h0; rw [bounds_E] at h; omega
  have eb : bmake [] size = [] := by unfold bmake; rw [if_neg h0]
  have HB := Lib.hid eb; clear eb
  clear h0
  rcases hs with hs | hs
  all_goals
    go_enter Try.func6, Try.ntmps6
    go_wp2_with fail
    refine (first18_any _).mono ?_
    rintro e w1 ⟨rfl, x1⟩
    go_wp2_with fail
    refine (new_any _).mono ?_
    rintro e w2 ⟨pb, S2, rfl, B2, x2, f2⟩
    go_wp2_with fail
    refine (make_any _ _ _ _ B2 _).mono ?_
    rintro e w3 ⟨rfl, S3, B3, x3, f3⟩
    rw [HB.out] at B3
    go_wp2_with fail
    refine (first18_any _).mono ?_
    rintro e w4 ⟨rfl, x4⟩
    go_wp2_with fail
    refine (len_any _ _ _ _ (B3.ext x4)).mono ?_
    rintro e w5 ⟨rfl, rfl⟩
    go_wp2_with fail
    go_ret
    exact ⟨rfl, ((x1.trans x2).trans' x3 (fun k h => .inr (Nat.le_trans x1.size (f2 k h)))).trans x4⟩

theorem bsize_write (m : List Blk) (k a : Int) (x : List UInt8) (b j : Int) : bsize (bwrite m k a x b) j = bsize m j := by
  unfold bwrite
  split
  · rename_i h
    obtain ⟨q1, q2, q3, _, q5, _⟩ := bcheck_0 h
    unfold bsize
    simp only [List.length_set]
    split
    · rename_i hj
      by_cases e : j = k
      · subst e
        rw [blk_set_same (by omega)]
        simp only [wBlk]
        rw [length_splice _ _ _ (by omega)]
      · rw [blk_set_other (by omega)]
    · rfl
  · rfl

theorem made_bytes {w : World} {g n : Nat} (h : w.heap[g]? = some (.cells (madeCells #[.int .u8 0] n) 5 (0, 0))) (hn : n ≤ 1000000) : BytesAt w (.slice (some ⟨g, 0, none⟩) n n) (List.replicate n 0) := by
  have := Own.sl (Own.made_at h (by simp only [maxLen]; omega))
  unfold BytesAt
  simpa [bv] using this
theorem mk_bytes (n : Nat) (hn : n ≤ 1000000) (w : World) : (Instr.makeSlice 27 (.int .i64 (n : Int)) (.int .i64 (n : Int))).run Try.prog w = .ok (.slice (some ⟨w.heap.size, 0, none⟩) n n) (w.alloc (.cells (madeCells #[.int .u8 0] n) 5)) :=
  run_make_row' (P := Try.prog) 27 5 (.int .u8 0) 1 IB.und IB.info rfl .i64 .i64 n (by omega) (by omega) w

set_option maxRecDepth 100000 in
set_option maxHeartbeats 1600000 in
theorem bounds_ok (z : Nat) (hz : z ≤ 256) (a n : Int) (hn : n ≤ 1000) (w : World) :
    Calls Try.prog 6 #[.int .i64 z, .int .i64 a, .int .i64 n] w fun e w' => e = .returned (.bool true) ∧ Ext w w' := by
  have q1 : bmakeE [] z = 0 := (bounds_E z).2 (by omega)
  have q2 : bmakeN [] z = 0 := by unfold bmakeN; rw [if_pos q1]; rfl
  have q3 : bmake [] z = [newBlk z] := by unfold bmake; rw [if_pos q1]; simp
  have HB := Lib.hid q3; clear q3
  have hs0 : bsize [newBlk z] 0 = z := by unfold bsize; simp [blk, newBlk]
  have hs1 : bsize [newBlk z] 1 = -1 := by unfold bsize; simp
  have HC := Lib.hid (bounds_C z hz a)
  obtain ⟨N, hN⟩ : ∃ N : Nat, N = n.toNat := ⟨_, rfl⟩
  have hN2 : N ≤ 1000 := by omega
  have key : ∀ c : Int, bcheck [newBlk z] 0 a n = c → (c = 0 ∨ c = 1) → (c = 0 → (breadB [newBlk z] 0 a n).length = n.toNat ∧ (breadY [newBlk z] 0 a n).length = n.toNat) ∧ (c = 1 → (breadB [newBlk z] 0 a n).length = 0) := by
    intro c hc _
    refine ⟨fun h => ?_, fun h => ?_⟩
    · rw [h] at hc
      obtain ⟨_, _, p3, p4, p5, _⟩ := bcheck_0 hc
      have e : (blk [newBlk z] (0 : Int).toNat) = newBlk z := rfl
      rw [e] at p5
      unfold breadB breadY
      rw [if_pos hc, if_pos hc, e, cut_len (by omega), cut_len (by simp [newBlk] at p5 ⊢; omega)]
      exact ⟨rfl, rfl⟩
    · rw [h] at hc
      unfold breadB; rw [if_neg (by omega)]; rfl
  have cases6 : (n < 0 ∧ a < 0) ∨ (n < 0 ∧ 0 ≤ a) ∨ (0 ≤ n ∧ a < 0) ∨ (0 ≤ n ∧ 0 ≤ a ∧ (z : Int) < a) ∨ (0 ≤ n ∧ 0 ≤ a ∧ a ≤ (z : Int) ∧ (z : Int) - a < n) ∨ (0 ≤ n ∧ 0 ≤ a ∧ a ≤ (z : Int) ∧ n ≤ (z : Int) - a) := by omega
  rcases cases6 with ⟨k1, k2⟩ | ⟨k1, k2⟩ | ⟨k1, k2⟩ | ⟨k1, k2, k3⟩ | ⟨k1, k2, k3, k4⟩ | ⟨k1, k2, k3, k4⟩
  case' inr.inr.inr.inr.inr =>
    have c0 : bcheck [newBlk z] 0 a n = 0 := by rw [HC.out, if_pos (by omega)]
    have c1 : bcheck [newBlk z] 0 a N = 0 := by rw [HC.out, if_pos (by omega)]
    have d0 := ((key 0 c0 (.inl rfl)).1 rfl).1
    have d1 := ((key 0 c0 (.inl rfl)).1 rfl).2
    have mk := mk_bytes N (by omega)
    obtain rfl : n = N := by omega
    simp only [Int.toNat_natCast] at d0 d1
  case' inr.inr.inr.inr.inl =>
    have c0 : bcheck [newBlk z] 0 a n = 1 := by rw [HC.out, if_neg (by omega)]
    have c1 : bcheck [newBlk z] 0 a N = 1 := by rw [HC.out, if_neg (by omega)]
    have d0 := (key 1 c0 (.inr rfl)).2 rfl
    have mk := mk_bytes N (by omega)
    obtain rfl : n = N := by omega
  case' inr.inr.inr.inl =>
    have c0 : bcheck [newBlk z] 0 a n = 1 := by rw [HC.out, if_neg (by omega)]
    have c1 : bcheck [newBlk z] 0 a N = 1 := by rw [HC.out, if_neg (by omega)]
    have d0 := (key 1 c0 (.inr rfl)).2 rfl
    have mk := mk_bytes N (by omega)
    obtain rfl : n = N := by omega
  case' inr.inr.inl =>
    have c0 : bcheck [newBlk z] 0 a n = 1 := by rw [HC.out, if_neg (by omega)]
    have c1 : bcheck [newBlk z] 0 a N = 1 := by rw [HC.out, if_neg (by omega)]
    have d0 := (key 1 c0 (.inr rfl)).2 rfl
    have mk := mk_bytes N (by omega)
    obtain rfl : n = N := by omega
  case' inr.inl =>
    have c0 : bcheck [newBlk z] 0 a n = 1 := by rw [HC.out, if_neg (by omega)]
    have d0 := (key 1 c0 (.inr rfl)).2 rfl
    have mk := mk_bytes 0 (by omega)
    obtain rfl : N = 0 := by omega
    simp only [Int.natCast_zero] at mk
  case' inl =>
    have c0 : bcheck [newBlk z] 0 a n = 1 := by rw [HC.out, if_neg (by omega)]
    have d0 := (key 1 c0 (.inr rfl)).2 rfl
    have mk := mk_bytes 0 (by omega)
    obtain rfl : N = 0 := by omega
    simp only [Int.natCast_zero] at mk
  all_goals
    clear key hN
    go_enter Try.func6, Try.ntmps6
    go_wp2_with fail
    refine (first18_any _).mono ?_
    rintro e w1 ⟨rfl, x1⟩
    go_wp2_with fail
    refine (new_any _).mono ?_
    rintro e w2 ⟨pb, S2, rfl, B2, x2, f2⟩
    go_wp2_with fail
    refine (make_any _ _ _ _ B2 _).mono ?_
    rintro e w3 ⟨rfl, S3, B3, x3, f3⟩
    rw [HB.out] at B3
    go_wp2_with fail
    refine (read_any _ _ _ _ B3 _ _ _).mono ?_
    rintro e w4 ⟨v, y, rfl, ov, oy, x4, fv, fy⟩
    have lv := ov.sl.run_len (P := Try.prog) IB.und 3
    have ly := oy.sl.run_len (P := Try.prog) II.und 3
    go_wp2_with fail
    refine (write_any _ _ _ _ (B3.ext (x4.trans ((Mod.refl _ _).alloc _))) _ _ _ _ (made_bytes (heap_alloc_new _ _) (by omega)) (by first | (simp; done) | (simp; omega)) _ ⟨by decide, by decide⟩).mono ?_
    rintro e w5 ⟨rfl, B5, x5⟩
    go_wp2_with fail
    refine (first18_any _).mono ?_
    rintro e w6 ⟨rfl, x6⟩
    go_wp2_with fail
    refine (size_any _ _ _ _ (B5.ext x6) _).mono ?_
    rintro e w7 ⟨rfl, rfl⟩
    rw [bsize_write, hs0]
    go_wp2_with fail
    refine (size_any _ _ _ _ (B5.ext x6) _).mono ?_
    rintro e w8 ⟨rfl, rfl⟩
    rw [bsize_write, hs1]
    go_wp2_with fail
    go_ret
    have g2 : ∀ k, S2 k → NoF k ∨ w.heap.size ≤ k := fun k h => .inr (Nat.le_trans x1.size (f2 k h))
    have g3 : ∀ k, S3 k → NoF k ∨ w.heap.size ≤ k := fun k h => (f3 k h).elim (g2 k) (fun h => .inr (Nat.le_trans (Nat.le_trans x1.size x2.size) h))
    exact ⟨rfl, (((((x1.trans x2).trans' x3 g2).trans x4).alloc _).trans' x5 g3).trans x6⟩
end Go.Proofs.Ytnnciakdeoopaaa
