/-
  The blocks in memory, and the contracts of the calls of package block that only read them. No condition.
-/
import Derived.Test.YtnnciakdeoopaaaBaseA
import Derived.Test.YtnnciakdeoopaaaBlkLaw
import Derived.Deep.RegionHeld3
namespace Go.Proofs.Ytnnciakdeoopaaa
open Go.Ren Go.RowKit

theorem I1 : EInfo Try.prog 89 93 2 48 (.agg #[.slice none 0 0, .slice none 0 0]) := ⟨Try.underlying89, by kernel_rfl, rfl, by decide⟩

structure BlocksIn (w : World) (pb : Nat) (lv : Value) (V Y : Nat → Value) (m : List Blk) : Prop where
  box : w.heap[pb]? = some (.cells #[lv] 91 (0, 0))
  row : Own w 93 2 lv m.length (flat 2 m.length (fun i j => if j = 0 then V i else Y i))
  bs : ∀ i, i < m.length → Own w 5 1 (V i) (blk m i).b.length ((blk m i).b.map bv)
  ys : ∀ i, i < m.length → Own w 3 1 (Y i) (blk m i).y.length ((blk m i).y.map iv)
  dV : ∀ i j k, i < m.length → j < m.length → (V i).ownBlock = some k → (V j).ownBlock = some k → i = j
  dY : ∀ i j k, i < m.length → j < m.length → (Y i).ownBlock = some k → (Y j).ownBlock = some k → i = j
  ok : BOk m
def BlocksFp (pb : Nat) (lv : Value) (V Y : Nat → Value) (n : Nat) (k : Nat) : Prop := k = pb ∨ lv.ownBlock = some k ∨ ∃ i, i < n ∧ ((V i).ownBlock = some k ∨ (Y i).ownBlock = some k)
structure BlocksAt (w : World) (p : Value) (m : List Blk) (S : Nat → Prop) : Prop where
  ex : ∃ pb lv V Y, p = .pointer (some ⟨pb, 0, none⟩) ∧ BlocksIn w pb lv V Y m ∧ ∀ k, S k ↔ BlocksFp pb lv V Y m.length k

theorem BlocksIn.lt {w : World} {pb : Nat} {lv : Value} {V Y : Nat → Value} {m : List Blk} (h : BlocksIn w pb lv V Y m) {k : Nat} (hk : BlocksFp pb lv V Y m.length k) : k < w.heap.size := by
  rcases hk with rfl | hk | ⟨i, hi, hk | hk⟩
  · exact lt_of_block h.box
  · exact h.row.lt hk
  · exact (h.bs i hi).lt hk
  · exact (h.ys i hi).lt hk
theorem BlocksIn.to {w w' : World} {pb : Nat} {lv : Value} {V Y : Nat → Value} {m : List Blk} (h : BlocksIn w pb lv V Y m) (e : ∀ k, BlocksFp pb lv V Y m.length k → w'.heap[k]? = w.heap[k]?) : BlocksIn w' pb lv V Y m :=
  ⟨(e pb (.inl rfl)).trans h.box, h.row.to fun k hk => e k (.inr (.inl hk)), fun i hi => (h.bs i hi).to fun k hk => e k (.inr (.inr ⟨i, hi, .inl hk⟩)),
    fun i hi => (h.ys i hi).to fun k hk => e k (.inr (.inr ⟨i, hi, .inr hk⟩)), h.dV, h.dY, h.ok⟩
theorem BlocksAt.lt {w : World} {p : Value} {m : List Blk} {S : Nat → Prop} (h : BlocksAt w p m S) {k : Nat} (hk : S k) : k < w.heap.size := by
  obtain ⟨pb, lv, V, Y, _, hin, hS⟩ := h.ex
  exact hin.lt ((hS k).1 hk)
theorem BlocksAt.mod {w w' : World} {p : Value} {m : List Blk} {S F : Nat → Prop} (h : BlocksAt w p m S) (md : Mod F w w') (hF : ∀ k, S k → ¬ F k) : BlocksAt w' p m S := by
  obtain ⟨pb, lv, V, Y, hp, hin, hS⟩ := h.ex
  exact ⟨pb, lv, V, Y, hp, hin.to fun k hk => md.block k (hin.lt hk) (hF k ((hS k).2 hk)), hS⟩
theorem BlocksAt.ext {w w' : World} {p : Value} {m : List Blk} {S : Nat → Prop} (h : BlocksAt w p m S) (md : Ext w w') : BlocksAt w' p m S := h.mod md fun _ _ h => h

theorem BlocksIn.cV {w : World} {pb : Nat} {lv : Value} {V Y : Nat → Value} {m : List Blk} (h : BlocksIn w pb lv V Y m) {i : Nat} (hi : i < m.length) : w.cell? (at_ lv (i * 2)) = some (V i) :=
  h.row.sl.cell (i * 2) _ (by have := flat_get (sz := 2) (j := 0) (fun i j => if j = 0 then V i else Y i) hi (by decide); simpa using this)
theorem BlocksIn.cY {w : World} {pb : Nat} {lv : Value} {V Y : Nat → Value} {m : List Blk} (h : BlocksIn w pb lv V Y m) {i : Nat} (hi : i < m.length) : w.cell? ⟨(at_ lv (i * 2)).block, (at_ lv (i * 2)).off + 1, none⟩ = some (Y i) :=
  h.row.sl.cell_off (by decide) (by have := flat_get (sz := 2) (j := 1) (fun i j => if j = 0 then V i else Y i) hi (by decide); simpa using this)

theorem len_any (w : World) (p : Value) (m : List Blk) (S : Nat → Prop) (h : BlocksAt w p m S) :
    Calls Try.prog 23 #[p] w fun e w' => e = .returned (.int .i64 m.length) ∧ w = w' := by
  obtain ⟨pb, lv, V, Y, rfl, hin, _⟩ := h.ex
  have c0 := cell_of_one hin.box
  have l0 := hin.row.sl.run_len (P := Try.prog) I1.und 3
  go_enter Try.func23, Try.ntmps23
  go_wp2
  go_ret
  exact ⟨rfl, rfl⟩

theorem size_any (w : World) (p : Value) (m : List Blk) (S : Nat → Prop) (h : BlocksAt w p m S) (k : Int) :
    Calls Try.prog 24 #[p, .int .i64 k] w fun e w' => e = .returned (.int .i64 (bsize m k)) ∧ w = w' := by
  obtain ⟨pb, lv, V, Y, rfl, hin, _⟩ := h.ex
  have c0 := cell_of_one hin.box
  have l0 := hin.row.sl.run_len (P := Try.prog) I1.und 3
  by_cases h1 : k < 0
  · have e1 : bsize m k = -1 := by unfold bsize; rw [if_neg (by omega)]
    rw [e1]; clear e1
    go_enter Try.func24, Try.ntmps24
    go_wp2
    go_ret
    exact ⟨rfl, rfl⟩
  · obtain ⟨i, rfl⟩ := Int.eq_ofNat_of_zero_le (Int.not_lt.1 h1)
    by_cases h2 : i < m.length
    · have e1 : bsize m i = ((blk m i).b.length : Int) := by unfold bsize; rw [if_pos (by omega)]; simp
      have h2' : ¬ (m.length : Int) ≤ (i : Int) := by omega
      have i0 := hin.row.sl.run_idx (P := Try.prog) I1.und I1.size .i64 i h2
      have c1 := hin.cV h2
      have l1 := (hin.bs i h2).sl.run_len (P := Try.prog) IB.und 3
      rw [e1]; clear e1 h
      go_enter Try.func24, Try.ntmps24
      go_wp2
      go_ret
      exact ⟨rfl, rfl⟩
    · have e1 : bsize m i = -1 := by unfold bsize; rw [if_neg (by omega)]
      have h2' : (m.length : Int) ≤ (i : Int) := by omega
      rw [e1]; clear e1
      go_enter Try.func24, Try.ntmps24
      go_wp2
      go_ret
      exact ⟨rfl, rfl⟩

theorem check_any (w : World) (p : Value) (m : List Blk) (S : Nat → Prop) (h : BlocksAt w p m S) (k a n : Int) :
    Calls Try.prog 49 #[p, .int .i64 k, .int .i64 a, .int .i64 n] w fun e w' => e = .returned (.int .i64 (bcheck m k a n)) ∧ w = w' := by
  have hsz := size_any w p m S h k
  have hok : BOk m := by obtain ⟨pb, lv, V, Y, _, hin, _⟩ := h.ex; exact hin.ok
  have hle := bsize_le hok k
  unfold bcheck
  generalize bsize m k = s at *
  have H := Lib.hid hsz; clear hsz h hok
  by_cases h0 : s < 0
  · rw [if_pos h0]
    go_enter Try.func49, Try.ntmps49
    go_wp2_with (go_at_call 24; refine H.out.mono ?_; rintro e w' ⟨rfl, rfl⟩)
    go_ret
    exact ⟨rfl, rfl⟩
  rw [if_neg h0]
  by_cases h1 : a < 0
  · rw [if_pos (by omega)]
    go_enter Try.func49, Try.ntmps49
    go_wp2_with (go_at_call 24; refine H.out.mono ?_; rintro e w' ⟨rfl, rfl⟩)
    go_ret
    exact ⟨rfl, rfl⟩
  by_cases h2 : n < 0
  · rw [if_pos (by omega)]
    go_enter Try.func49, Try.ntmps49
    go_wp2_with (go_at_call 24; refine H.out.mono ?_; rintro e w' ⟨rfl, rfl⟩)
    go_ret
    exact ⟨rfl, rfl⟩
  by_cases h3 : s < a
  · rw [if_pos (by omega)]
    go_enter Try.func49, Try.ntmps49
    go_wp2_with (go_at_call 24; refine H.out.mono ?_; rintro e w' ⟨rfl, rfl⟩)
    go_ret
    exact ⟨rfl, rfl⟩
  by_cases h4 : s - a < n
  · rw [if_pos (by omega)]
    go_enter Try.func49, Try.ntmps49
    go_wp2_with (go_at_call 24; refine H.out.mono ?_; rintro e w' ⟨rfl, rfl⟩)
    go_ret
    exact ⟨rfl, rfl⟩
  · rw [if_neg (by omega)]
    go_enter Try.func49, Try.ntmps49
    go_wp2_with (go_at_call 24; refine H.out.mono ?_; rintro e w' ⟨rfl, rfl⟩)
    go_ret
    exact ⟨rfl, rfl⟩

set_option maxRecDepth 100000 in
theorem read_any (w : World) (p : Value) (m : List Blk) (S : Nat → Prop) (h : BlocksAt w p m S) (k a n : Int) :
    Calls Try.prog 22 #[p, .int .i64 k, .int .i64 a, .int .i64 n] w fun e w' => ∃ v y, e = .returned (.tuple #[v, y, .int .i64 (bcheck m k a n)]) ∧ 
      Own w' 5 1 v (breadB m k a n).length ((breadB m k a n).map bv) ∧ Own w' 3 1 y (breadY m k a n).length ((breadY m k a n).map iv) ∧ Ext w w' ∧
      (∀ k, v.ownBlock = some k → w.heap.size ≤ k) ∧ (∀ k, y.ownBlock = some k → w.heap.size ≤ k) := by
  have hck := check_any w p m S h k a n
  obtain ⟨pb, lv, V, Y, rfl, hin, _⟩ := h.ex
  have c0 := cell_of_one hin.box
  have H := Lib.hid hck; clear hck h
  by_cases h0 : bcheck m k a n = 0
  case neg =>
    have hne : (bcheck m k a n != 0) = true := by rw [bne_iff_ne]; exact h0
    have e1 : breadB m k a n = [] := by unfold breadB; rw [if_neg h0]
    have e2 : breadY m k a n = [] := by unfold breadY; rw [if_neg h0]
    rw [e1, e2]; clear e1 e2
    generalize bcheck m k a n = ck at *
    clear h0
    go_enter Try.func22, Try.ntmps22
    go_wp2_with (go_at_call 49; refine H.out.mono ?_; rintro e w' ⟨rfl, rfl⟩)
    go_ret3
    exact ⟨_, _, rfl, Own.nil _ _ _, Own.nil _ _ _, Mod.refl _ _, fun k hk => by (cases hk), fun k hk => by (cases hk)⟩
  case pos =>
    obtain ⟨q1, q2, q3, q4, q5, q6⟩ := bcheck_0 h0
    have e1 : breadB m k a n = cut (blk m k.toNat).b a.toNat n.toNat := by unfold breadB; rw [if_pos h0]
    have e2 : breadY m k a n = cut (blk m k.toNat).y a.toNat n.toNat := by unfold breadY; rw [if_pos h0]
    rw [e1, e2]; clear e1 e2
    rw [h0] at H
    rw [h0]
    clear h0 q6
    obtain ⟨i, rfl⟩ := Int.eq_ofNat_of_zero_le q1
    obtain ⟨a, rfl⟩ := Int.eq_ofNat_of_zero_le q3
    obtain ⟨n, rfl⟩ := Int.eq_ofNat_of_zero_le q4
    simp only [Int.toNat_natCast] at q5 ⊢
    have q2' : i < m.length := by omega
    have i0 := hin.row.sl.run_idx (P := Try.prog) I1.und I1.size .i64 i q2'
    have c1 := hin.cV q2'
    have c2 := hin.cY q2'
    have b1 := hin.bs i q2'
    have b2 := hin.ys i q2'
    have k1 := b1.sl.cells_eq
    have k2 := b2.sl.cells_eq
    have t1 := b1.sl.run_st (P := Try.prog)
    have t2 := b2.sl.run_st (P := Try.prog)
    have htop := hin.ok.top i q2'
    have hlen := hin.ok.len i q2'
    have s1 := b1.sl.run_sub (P := Try.prog) IB.und IB.size .i64 .i64 a (a + n) (by omega) (by omega)
    have s2 := b2.sl.run_sub (P := Try.prog) II.und II.size .i64 .i64 a (a + n) (by omega) (by omega)
    have Hl := Lib.hid hlen; clear hlen
    have w1 : (a : Int) + (n : Int) ≤ 256 := by omega
    simp only [Int.natCast_add] at s1 s2
    go_enter Try.func22, Try.ntmps22
    go_wp2_with (go_at_call 49; refine H.out.mono ?_; rintro e w' ⟨rfl, rfl⟩)
    have hwr : IntKind.i64.wrap ((a : Int) + (n : Int)) = (a : Int) + (n : Int) := IntWalk.i64_in _ (by omega)
    obtain ⟨w0, hw0⟩ : ∃ w0, w0 = w.alloc (.cells #[V i, Y i] 93) := ⟨_, rfl⟩
    have x0 : Ext w w0 := by rw [hw0]; exact (Mod.refl _ _).alloc _
    have d1 : w0.cell? ⟨w.heap.size, 0, none⟩ = some (V i) := by rw [hw0]; simp
    have d2 : w0.cell? ⟨w.heap.size, 1, none⟩ = some (Y i) := by rw [hw0]; simp
    have hS : ∀ w', Ext w0 w' → (w'.cell? ⟨w.heap.size, 0, none⟩ = some (V i) ∧ w'.cell? ⟨w.heap.size, 1, none⟩ = some (Y i) ∧ Ext w0 w') := fun w' h => ⟨h.cell d1, h.cell d2, h⟩
    have hB : ∀ w', Ext w0 w' → BytesAt w' (sub_ (V i) a (a + n) 1) (cut (blk m i).b a n) := fun w' hw => cut_bytes (b1.sl.ext (by decide) (x0.trans hw)) (by omega)
    have hI : ∀ w', Ext w0 w' → IntsAt w' (sub_ (Y i) a (a + n) 1) (cut (blk m i).y a n) := fun w' hw => cut_ints ⟨b2.sl.ext (by decide) (x0.trans hw), hin.ok.ok i q2'⟩ (by have := Hl.out; omega)
    rw [← hw0]
    have HW := Lib.hid hw0
    have HX := Lib.hid x0
    clear hw0 x0 d1 d2
    go_region_held3 (fun w' => w'.cell? ⟨w.heap.size, 0, none⟩ = some (V i) ∧ w'.cell? ⟨w.heap.size, 1, none⟩ = some (Y i) ∧ Ext w0 w') (first | exact hS _ E2 | exact hS _ E1 | exact hS _ (Mod.refl _ _).drew)
      (first | (go_at_call 47; refine (clone_bytes _ _ (cut (blk m i).b a n) (hB _ (And.right (And.right (by assumption)))) (by rw [cut_len (by omega)]; omega)).mono ?_; rintro e w1 ⟨v1, rfl, o1, x1, f1⟩; have E1 := Mod.trans (And.right (And.right ‹_ ∧ _ ∧ Ext w0 _›)) x1) | (go_at_call 48; refine (clone_ints _ _ (cut (blk m i).y a n) (hI _ (And.right (And.right (by assumption)))) (by rw [cut_len (by have := Hl.out; omega)]; omega)).mono ?_; rintro e w2 ⟨v2, rfl, o2, x2, f2⟩; have E2 := Mod.trans (And.right (And.right ‹_ ∧ _ ∧ Ext w0 _›)) x2))
    go_wp2
    go_ret3
    have z1 : w.heap.size ≤ w0.heap.size := HX.out.size
    have z2 : w0.heap.size ≤ w1.heap.size := E1.size
    exact ⟨_, _, rfl, by simpa using o1.ext x2, by simpa using o2, HX.out.trans E2, fun k hk => Nat.le_trans z1 (f1 k hk), fun k hk => Nat.le_trans z1 (Nat.le_trans z2 (f2 k hk))⟩
end Go.Proofs.Ytnnciakdeoopaaa
