/-
  The document's blocks (renref18.Blocks) in memory, and the contracts of its calls that only read them. No condition.
-/
import Derived.Test.YtnnciakdeoopaaaBase
import Derived.Test.YtnnciakdeoopaaaBlkAll
import Derived.BigQuiet
namespace Go.Proofs.Ytnnciakdeoopaaa
open Go.Ren Go.RowKit
set_option linter.unusedVariables false

theorem IYY : EInfo Try.prog 52 26 1 24 (.slice none 0 0) := ⟨Try.underlying52, by kernel_rfl, rfl, by decide⟩

structure RefIn (w : World) (px : Nat) (lb ly : Value) (V Y : Nat → Value) (m : List Blk) : Prop where
  box : w.heap[px]? = some (.cells #[lb, ly] 54 (0, 0))
  rb : Own w 27 1 lb m.length (flat 1 m.length (fun i _ => V i))
  ry : Own w 26 1 ly m.length (flat 1 m.length (fun i _ => Y i))
  bs : ∀ i, i < m.length → Own w 5 1 (V i) (blk m i).b.length ((blk m i).b.map bv)
  ys : ∀ i, i < m.length → Own w 3 1 (Y i) (blk m i).y.length ((blk m i).y.map iv)
  dV : ∀ i j k, i < m.length → j < m.length → (V i).ownBlock = some k → (V j).ownBlock = some k → i = j
  dY : ∀ i j k, i < m.length → j < m.length → (Y i).ownBlock = some k → (Y j).ownBlock = some k → i = j
  ok : BOk m
def RefFp (px : Nat) (lb ly : Value) (V Y : Nat → Value) (n : Nat) (k : Nat) : Prop := k = px ∨ lb.ownBlock = some k ∨ ly.ownBlock = some k ∨ ∃ i, i < n ∧ ((V i).ownBlock = some k ∨ (Y i).ownBlock = some k)
structure RefAt (w : World) (p : Value) (m : List Blk) (S : Nat → Prop) : Prop where
  ex : ∃ px lb ly V Y, p = .pointer (some ⟨px, 0, none⟩) ∧ RefIn w px lb ly V Y m ∧ ∀ k, S k ↔ RefFp px lb ly V Y m.length k

theorem RefIn.lt {w : World} {px : Nat} {lb ly : Value} {V Y : Nat → Value} {m : List Blk} (h : RefIn w px lb ly V Y m) {k : Nat} (hk : RefFp px lb ly V Y m.length k) : k < w.heap.size := by
  rcases hk with rfl | hk | hk | ⟨i, hi, hk | hk⟩
  · exact lt_of_block h.box
  · exact h.rb.lt hk
  · exact h.ry.lt hk
  · exact (h.bs i hi).lt hk
  · exact (h.ys i hi).lt hk
theorem RefIn.to {w w' : World} {px : Nat} {lb ly : Value} {V Y : Nat → Value} {m : List Blk} (h : RefIn w px lb ly V Y m) (e : ∀ k, RefFp px lb ly V Y m.length k → w'.heap[k]? = w.heap[k]?) : RefIn w' px lb ly V Y m :=
  ⟨(e px (.inl rfl)).trans h.box, h.rb.to fun k hk => e k (.inr (.inl hk)), h.ry.to fun k hk => e k (.inr (.inr (.inl hk))), fun i hi => (h.bs i hi).to fun k hk => e k (.inr (.inr (.inr ⟨i, hi, .inl hk⟩))),
    fun i hi => (h.ys i hi).to fun k hk => e k (.inr (.inr (.inr ⟨i, hi, .inr hk⟩))), h.dV, h.dY, h.ok⟩
theorem RefAt.lt {w : World} {p : Value} {m : List Blk} {S : Nat → Prop} (h : RefAt w p m S) {k : Nat} (hk : S k) : k < w.heap.size := by
  obtain ⟨px, lb, ly, V, Y, _, hin, hS⟩ := h.ex
  exact hin.lt ((hS k).1 hk)
theorem RefAt.mod {w w' : World} {p : Value} {m : List Blk} {S F : Nat → Prop} (h : RefAt w p m S) (md : Mod F w w') (hF : ∀ k, S k → ¬ F k) : RefAt w' p m S := by
  obtain ⟨px, lb, ly, V, Y, hp, hin, hS⟩ := h.ex
  exact ⟨px, lb, ly, V, Y, hp, hin.to fun k hk => md.block k (hin.lt hk) (hF k ((hS k).2 hk)), hS⟩
theorem RefAt.ext {w w' : World} {p : Value} {m : List Blk} {S : Nat → Prop} (h : RefAt w p m S) (md : Ext w w') : RefAt w' p m S := h.mod md fun _ _ h => h
theorem flat1 {n i : Nat} (V : Nat → Value) (hi : i < n) : (flat 1 n (fun i _ => V i))[i]? = some (V i) := by
  have := flat_get (sz := 1) (j := 0) (fun i _ => V i) hi (by decide); simpa using this
theorem RefIn.cV {w : World} {px : Nat} {lb ly : Value} {V Y : Nat → Value} {m : List Blk} (h : RefIn w px lb ly V Y m) {i : Nat} (hi : i < m.length) : w.cell? (at_ lb i) = some (V i) := h.rb.sl.cell i _ (flat1 V hi)
theorem RefIn.cY {w : World} {px : Nat} {lb ly : Value} {V Y : Nat → Value} {m : List Blk} (h : RefIn w px lb ly V Y m) {i : Nat} (hi : i < m.length) : w.cell? (at_ ly i) = some (Y i) := h.ry.sl.cell i _ (flat1 Y hi)
theorem RefIn.c0 {w : World} {px : Nat} {lb ly : Value} {V Y : Nat → Value} {m : List Blk} (h : RefIn w px lb ly V Y m) : w.cell? ⟨px, 0, none⟩ = some lb := by simp [World.cell?, h.box]
theorem RefIn.c1 {w : World} {px : Nat} {lb ly : Value} {V Y : Nat → Value} {m : List Blk} (h : RefIn w px lb ly V Y m) : w.cell? ⟨px, 1, none⟩ = some ly := by simp [World.cell?, h.box]

theorem rsize_any (w : World) (p : Value) (m : List Blk) (S : Nat → Prop) (h : RefAt w p m S) (k : Int) :
    Calls Try.prog 55 #[p, .int .i64 k] w fun e w' => e = .returned (.int .i64 (bsize m k)) ∧ w = w' := by
  obtain ⟨px, lb, ly, V, Y, rfl, hin, _⟩ := h.ex
  have c0 := hin.c0
  have l0 := hin.rb.sl.run_len (P := Try.prog) IBB.und 3
  by_cases h1 : k < 0
  · have e1 : bsize m k = -1 := by unfold bsize; rw [if_neg (by omega)]
    rw [e1]; clear e1
    go_enter Try.func55, Try.ntmps55
    go_wp2
    go_ret
    exact ⟨rfl, rfl⟩
  · obtain ⟨i, rfl⟩ := Int.eq_ofNat_of_zero_le (Int.not_lt.1 h1)
    by_cases h2 : i < m.length
    · have e1 : bsize m i = ((blk m i).b.length : Int) := by unfold bsize; rw [if_pos (by omega)]; simp
      have h2' : ¬ (m.length : Int) ≤ (i : Int) := by omega
      have i0 := hin.rb.sl.run_idx (P := Try.prog) IBB.und IBB.size .i64 i h2
      have c1 := hin.cV h2
      have l1 := (hin.bs i h2).sl.run_len (P := Try.prog) IB.und 3
      simp only [Nat.mul_one] at i0
      rw [e1]; clear e1 h
      go_enter Try.func55, Try.ntmps55
      go_wp2
      go_ret
      exact ⟨rfl, rfl⟩
    · have e1 : bsize m i = -1 := by unfold bsize; rw [if_neg (by omega)]
      have h2' : (m.length : Int) ≤ (i : Int) := by omega
      rw [e1]; clear e1
      go_enter Try.func55, Try.ntmps55
      go_wp2
      go_ret
      exact ⟨rfl, rfl⟩

theorem rlies_any (w : World) (p : Value) (m : List Blk) (S : Nat → Prop) (h : RefAt w p m S) (k a n : Int) :
    Calls Try.prog 50 #[p, .int .i64 k, .int .i64 a, .int .i64 n] w fun e w' => e = .returned (.int .i64 (bcheck m k a n)) ∧ w = w' := by
  have hsz := rsize_any w p m S h k
  have hok : BOk m := by obtain ⟨px, lb, ly, V, Y, _, hin, _⟩ := h.ex; exact hin.ok
  have hle := bsize_le hok k
  unfold bcheck
  generalize bsize m k = s at *
  have H := Lib.hid hsz; clear hsz h hok
  by_cases h0 : s < 0
  · rw [if_pos h0]
    go_enter Try.func50, Try.ntmps50
    go_wp2_with (go_at_call 55; refine H.out.mono ?_; rintro e w' ⟨rfl, rfl⟩)
    go_ret
    exact ⟨rfl, rfl⟩
  rw [if_neg h0]
  rcases (by omega : (a < 0) ∨ (0 ≤ a ∧ n < 0) ∨ (0 ≤ a ∧ 0 ≤ n ∧ s < a) ∨ (0 ≤ a ∧ 0 ≤ n ∧ a ≤ s ∧ s - a < n) ∨ (0 ≤ a ∧ 0 ≤ n ∧ a ≤ s ∧ n ≤ s - a)) with h1 | ⟨h1, h2⟩ | ⟨h1, h2, h3⟩ | ⟨h1, h2, h3, h4⟩ | ⟨h1, h2, h3, h4⟩
  case' inr.inr.inr.inr => have hw : IntKind.i64.wrap (s - a) = s - a := IntWalk.i64_in _ (by omega)
  case' inr.inr.inr.inl => have hw : IntKind.i64.wrap (s - a) = s - a := IntWalk.i64_in _ (by omega)
  all_goals
    first | rw [if_pos (by omega)] | rw [if_neg (by omega)]
    go_enter Try.func50, Try.ntmps50
    go_wp2_with (go_at_call 55; refine H.out.mono ?_; rintro e w' ⟨rfl, rfl⟩)
    go_ret
    exact ⟨rfl, rfl⟩

set_option maxRecDepth 100000 in
theorem rread_any (w : World) (p : Value) (m : List Blk) (S : Nat → Prop) (h : RefAt w p m S) (k a n : Int) :
    Calls Try.prog 29 #[p, .int .i64 k, .int .i64 a, .int .i64 n] w fun e w' => ∃ v y, e = .returned (.tuple #[v, y, .int .i64 (bcheck m k a n)]) ∧ 
      Own w' 5 1 v (breadB m k a n).length ((breadB m k a n).map bv) ∧ Own w' 3 1 y (breadY m k a n).length ((breadY m k a n).map iv) ∧ Ext w w' ∧
      (∀ k, v.ownBlock = some k → w.heap.size ≤ k) ∧ (∀ k, y.ownBlock = some k → w.heap.size ≤ k) := by
  have hck := rlies_any w p m S h k a n
  obtain ⟨px, lb, ly, V, Y, rfl, hin, _⟩ := h.ex
  have c0 := hin.c0
  have d0 := hin.c1
  have H := Lib.hid hck; clear hck h
  by_cases h0 : bcheck m k a n = 0
  case neg =>
    have hne : (bcheck m k a n != 0) = true := by rw [bne_iff_ne]; exact h0
    have e1 : breadB m k a n = [] := by unfold breadB; rw [if_neg h0]
    have e2 : breadY m k a n = [] := by unfold breadY; rw [if_neg h0]
    rw [e1, e2]; clear e1 e2
    generalize bcheck m k a n = ck at *
    clear h0
    go_enter Try.func29, Try.ntmps29
    go_wp2_with (go_at_call 50; refine H.out.mono ?_; rintro e w' ⟨rfl, rfl⟩)
    go_ret3
    exact ⟨_, _, rfl, Own.nil _ _ _, Own.nil _ _ _, Mod.refl _ _, fun k hk => by (cases hk), fun k hk => by (cases hk)⟩
  case pos =>
    obtain ⟨q1, q2, q3, q4, q5, q6⟩ := bcheck_0 h0
    have e1 : breadB m k a n = cut (blk m k.toNat).b a.toNat n.toNat := by unfold breadB; rw [if_pos h0]
    have e2 : breadY m k a n = cut (blk m k.toNat).y a.toNat n.toNat := by unfold breadY; rw [if_pos h0]
    rw [e1, e2]; clear e1 e2
    rw [h0] at H
    rw [h0]
    clear h0 q6
    obtain ⟨i, rfl⟩ := Int.eq_ofNat_of_zero_le q1
    obtain ⟨a, rfl⟩ := Int.eq_ofNat_of_zero_le q3
    obtain ⟨n, rfl⟩ := Int.eq_ofNat_of_zero_le q4
    simp only [Int.toNat_natCast] at q5 ⊢
    have q2' : i < m.length := by omega
    have i0 := hin.rb.sl.run_idx (P := Try.prog) IBB.und IBB.size .i64 i q2'
    have j0 := hin.ry.sl.run_idx (P := Try.prog) IYY.und IYY.size .i64 i q2'
    simp only [Nat.mul_one] at i0 j0
    have c1 := hin.cV q2'
    have c2 := hin.cY q2'
    have b1 := hin.bs i q2'
    have b2 := hin.ys i q2'
    have htop := hin.ok.top i q2'
    have hlen := hin.ok.len i q2'
    have s1 := b1.sl.run_sub (P := Try.prog) IB.und IB.size .i64 .i64 a (a + n) (by omega) (by omega)
    have s2 := b2.sl.run_sub (P := Try.prog) II.und II.size .i64 .i64 a (a + n) (by omega) (by omega)
    have Hl := Lib.hid hlen; clear hlen
    have w1 : (a : Int) + (n : Int) ≤ 256 := by omega
    simp only [Int.natCast_add] at s1 s2
    go_enter Try.func29, Try.ntmps29
    go_wp2_with (go_at_call 50; refine H.out.mono ?_; rintro e w' ⟨rfl, rfl⟩)
    have hwr : IntKind.i64.wrap ((a : Int) + (n : Int)) = (a : Int) + (n : Int) := IntWalk.i64_in _ (by omega)
    have hS : ∀ w', Ext w w' → (w'.cell? ⟨px, 0, none⟩ = some lb ∧ w'.cell? ⟨px, 1, none⟩ = some ly ∧ w'.cell? (at_ lb i) = some (V i) ∧ w'.cell? (at_ ly i) = some (Y i) ∧ Ext w w') := fun w' h => ⟨h.cell c0, h.cell d0, h.cell c1, h.cell c2, h⟩
    have hB : ∀ w', Ext w w' → BytesAt w' (sub_ (V i) a (a + n) 1) (cut (blk m i).b a n) := fun w' hw => cut_bytes (b1.sl.ext (by decide) hw) (by omega)
    have hI : ∀ w', Ext w w' → IntsAt w' (sub_ (Y i) a (a + n) 1) (cut (blk m i).y a n) := fun w' hw => cut_ints ⟨b2.sl.ext (by decide) hw, hin.ok.ok i q2'⟩ (by have := Hl.out; omega)
    clear c0 d0 c1 c2
    go_region_held3 (fun w' => w'.cell? ⟨px, 0, none⟩ = some lb ∧ w'.cell? ⟨px, 1, none⟩ = some ly ∧ w'.cell? (at_ lb i) = some (V i) ∧ w'.cell? (at_ ly i) = some (Y i) ∧ Ext w w') (first | exact hS _ E2 | exact hS _ E1 | exact hS _ (Mod.refl _ _).drew)
      (first | (go_at_call 51; refine (copy_bytes _ _ (cut (blk m i).b a n) (hB _ (And.right (And.right (And.right (And.right (by assumption)))))) (by rw [cut_len (by omega)]; omega)).mono ?_; rintro e w1 ⟨v1, rfl, o1, x1, f1⟩; have E1 := Mod.trans (And.right (And.right (And.right (And.right ‹_ ∧ _ ∧ _ ∧ _ ∧ Ext w _›)))) x1) | (go_at_call 52; refine (copy_ints _ _ (cut (blk m i).y a n) (hI _ (And.right (And.right (And.right (And.right (by assumption)))))) (by rw [cut_len (by have := Hl.out; omega)]; omega)).mono ?_; rintro e w2 ⟨v2, rfl, o2, x2, f2⟩; have E2 := Mod.trans (And.right (And.right (And.right (And.right ‹_ ∧ _ ∧ _ ∧ _ ∧ Ext w _›)))) x2))
    go_wp2
    go_ret3
    exact ⟨_, _, rfl, by simpa using o1.ext x2, by simpa using o2, E2, fun k hk => f1 k hk, fun k hk => Nat.le_trans E1.size (f2 k hk)⟩
end Go.Proofs.Ytnnciakdeoopaaa
