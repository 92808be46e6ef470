/-
  The document's blocks (renref18.Blocks) in memory, and the contracts of its calls that only read them. No condition. The contract of (*renref18.Blocks).Make: as the program's own. No condition. The contracts of (*renref18.Blocks).Write and .All. No condition. The contracts of (*renref18.Blocks).All, all in memory of its own, and Copy. No condition.
-/
import Derived.Test.YtbhocahmhmafmaaGreatPBase
import Derived.Test.YtbhocahmhmafmaaGreatPBlkAt
import Derived.BigQuiet
import Derived.Deep.RegionLaw
import Derived.Test.YtbhocahmhmafmaaGreatPBlkLaw
import Derived.Test.YtbhocahmhmafmaaGreatPPlan
namespace Go.Proofs.YtbhocahmhmafmaaGreat
open Go.Ren Go.RowKit
set_option linter.unusedVariables false
theorem IYY : EInfo Tryz.prog 80 33 1 24 (.slice none 0 0) := ⟨Tryz.underlying80, by kernel_rfl, rfl, by decide⟩
structure RefIn (w : World) (px : Nat) (lb ly : Value) (V Y : Nat → Value) (m : List Blk) : Prop where
 box : w.heap[px]? = some (.cells #[lb, ly] 82 (0, 0))
 rb : Own w 68 1 lb m.length (flat 1 m.length (fun i _ => V i))
 ry : Own w 33 1 ly m.length (flat 1 m.length (fun i _ => Y i))
 bs : ∀ i, i < m.length → Own w 5 1 (V i) (blk m i).b.length ((blk m i).b.map bv)
 ys : ∀ i, i < m.length → Own w 3 1 (Y i) (blk m i).y.length ((blk m i).y.map iv)
 dV : ∀ i j k, i < m.length → j < m.length → (V i).ownBlock = some k → (V j).ownBlock = some k → i = j
 dY : ∀ i j k, i < m.length → j < m.length → (Y i).ownBlock = some k → (Y j).ownBlock = some k → i = j
 ok : BOk m
def RefFp (px : Nat) (lb ly : Value) (V Y : Nat → Value) (n : Nat) (k : Nat) : Prop := k = px ∨ lb.ownBlock = some k ∨ ly.ownBlock = some k ∨ ∃ i, i < n ∧ ((V i).ownBlock = some k ∨ (Y i).ownBlock = some k)
structure RefAt (w : World) (p : Value) (m : List Blk) (S : Nat → Prop) : Prop where
 ex : ∃ px lb ly V Y, p = .pointer (some ⟨px, 0, none⟩) ∧ RefIn w px lb ly V Y m ∧ ∀ k, S k ↔ RefFp px lb ly V Y m.length k
theorem RefIn.lt {w : World} {px : Nat} {lb ly : Value} {V Y : Nat → Value} {m : List Blk} (h : RefIn w px lb ly V Y m) {k : Nat} (hk : RefFp px lb ly V Y m.length k) : k < w.heap.size := by
 rcases hk with rfl | hk | hk | ⟨i, hi, hk | hk⟩
 · exact lt_of_block h.box
 · exact h.rb.lt hk
 · exact h.ry.lt hk
 · exact (h.bs i hi).lt hk
 · exact (h.ys i hi).lt hk
theorem RefIn.to {w w' : World} {px : Nat} {lb ly : Value} {V Y : Nat → Value} {m : List Blk} (h : RefIn w px lb ly V Y m) (e : ∀ k, RefFp px lb ly V Y m.length k → w'.heap[k]? = w.heap[k]?) : RefIn w' px lb ly V Y m :=
 ⟨(e px (.inl rfl)).trans h.box, h.rb.to fun k hk => e k (.inr (.inl hk)), h.ry.to fun k hk => e k (.inr (.inr (.inl hk))), fun i hi => (h.bs i hi).to fun k hk => e k (.inr (.inr (.inr ⟨i, hi, .inl hk⟩))),
  fun i hi => (h.ys i hi).to fun k hk => e k (.inr (.inr (.inr ⟨i, hi, .inr hk⟩))), h.dV, h.dY, h.ok⟩
theorem RefAt.lt {w : World} {p : Value} {m : List Blk} {S : Nat → Prop} (h : RefAt w p m S) {k : Nat} (hk : S k) : k < w.heap.size := by
 obtain ⟨px, lb, ly, V, Y, _, hin, hS⟩ := h.ex
 exact hin.lt ((hS k).1 hk)
theorem RefAt.mod {w w' : World} {p : Value} {m : List Blk} {S F : Nat → Prop} (h : RefAt w p m S) (md : Mod F w w') (hF : ∀ k, S k → ¬ F k) : RefAt w' p m S := by
 obtain ⟨px, lb, ly, V, Y, hp, hin, hS⟩ := h.ex
 exact ⟨px, lb, ly, V, Y, hp, hin.to fun k hk => md.block k (hin.lt hk) (hF k ((hS k).2 hk)), hS⟩
theorem RefAt.ext {w w' : World} {p : Value} {m : List Blk} {S : Nat → Prop} (h : RefAt w p m S) (md : Ext w w') : RefAt w' p m S := h.mod md fun _ _ h => h
theorem flat1 {n i : Nat} (V : Nat → Value) (hi : i < n) : (flat 1 n (fun i _ => V i))[i]? = some (V i) := by
 have := flat_get (sz := 1) (j := 0) (fun i _ => V i) hi (by decide); simpa using this
theorem RefIn.cV {w : World} {px : Nat} {lb ly : Value} {V Y : Nat → Value} {m : List Blk} (h : RefIn w px lb ly V Y m) {i : Nat} (hi : i < m.length) : w.cell? (at_ lb i) = some (V i) := h.rb.sl.cell i _ (flat1 V hi)
theorem RefIn.cY {w : World} {px : Nat} {lb ly : Value} {V Y : Nat → Value} {m : List Blk} (h : RefIn w px lb ly V Y m) {i : Nat} (hi : i < m.length) : w.cell? (at_ ly i) = some (Y i) := h.ry.sl.cell i _ (flat1 Y hi)
theorem RefIn.c0 {w : World} {px : Nat} {lb ly : Value} {V Y : Nat → Value} {m : List Blk} (h : RefIn w px lb ly V Y m) : w.cell? ⟨px, 0, none⟩ = some lb := by simp [World.cell?, h.box]
theorem RefIn.c1 {w : World} {px : Nat} {lb ly : Value} {V Y : Nat → Value} {m : List Blk} (h : RefIn w px lb ly V Y m) : w.cell? ⟨px, 1, none⟩ = some ly := by simp [World.cell?, h.box]
theorem rsize_any (w : World) (p : Value) (m : List Blk) (S : Nat → Prop) (h : RefAt w p m S) (k : Int) :
 Calls Tryz.prog 177 #[p, .int .i64 k] w fun e w' => e = .returned (.int .i64 (bsize m k)) ∧ w = w' := by
 obtain ⟨px, lb, ly, V, Y, rfl, hin, _⟩ := h.ex
 have c0 := hin.c0
 have l0 := hin.rb.sl.run_len (P := Tryz.prog) IBB.und 3
 by_cases h1 : k < 0
 · have e1 : bsize m k = -1 := by unfold bsize; rw [if_neg (by omega)]
   rw [e1]; clear e1
   go_enter Tryz.func177, Tryz.ntmps177
   go_wp2
   go_ret
   exact ⟨rfl, rfl⟩
 · obtain ⟨i, rfl⟩ := Int.eq_ofNat_of_zero_le (Int.not_lt.1 h1)
   by_cases h2 : i < m.length
   · have e1 : bsize m i = ((blk m i).b.length : Int) := by unfold bsize; rw [if_pos (by omega)]; simp
     have h2' : ¬ (m.length : Int) ≤ (i : Int) := by omega
     have i0 := hin.rb.sl.run_idx (P := Tryz.prog) IBB.und IBB.size .i64 i h2
     have c1 := hin.cV h2
     have l1 := (hin.bs i h2).sl.run_len (P := Tryz.prog) IB.und 3
     simp only [Nat.mul_one] at i0
     rw [e1]; clear e1 h
     go_enter Tryz.func177, Tryz.ntmps177
     go_wp2
     go_ret
     exact ⟨rfl, rfl⟩
   · have e1 : bsize m i = -1 := by unfold bsize; rw [if_neg (by omega)]
     have h2' : (m.length : Int) ≤ (i : Int) := by omega
     rw [e1]; clear e1
     go_enter Tryz.func177, Tryz.ntmps177
     go_wp2
     go_ret
     exact ⟨rfl, rfl⟩
theorem rlies_any (w : World) (p : Value) (m : List Blk) (S : Nat → Prop) (h : RefAt w p m S) (k a n : Int) :
 Calls Tryz.prog 151 #[p, .int .i64 k, .int .i64 a, .int .i64 n] w fun e w' => e = .returned (.int .i64 (bcheck m k a n)) ∧ w = w' := by
 have hsz := rsize_any w p m S h k
 have hok : BOk m := by obtain ⟨px, lb, ly, V, Y, _, hin, _⟩ := h.ex; exact hin.ok
 have hle := bsize_le hok k
 unfold bcheck
 generalize bsize m k = s at *
 have H := Lib.hid hsz; clear hsz h hok
 by_cases h0 : s < 0
 · rw [if_pos h0]
   go_enter Tryz.func151, Tryz.ntmps151
   go_wp2_with (go_at_call 177; refine H.out.mono ?_; rintro e w' ⟨rfl, rfl⟩)
   go_ret
   exact ⟨rfl, rfl⟩
 rw [if_neg h0]
 rcases (by omega : (a < 0) ∨ (0 ≤ a ∧ n < 0) ∨ (0 ≤ a ∧ 0 ≤ n ∧ s < a) ∨ (0 ≤ a ∧ 0 ≤ n ∧ a ≤ s ∧ s - a < n) ∨ (0 ≤ a ∧ 0 ≤ n ∧ a ≤ s ∧ n ≤ s - a)) with h1 | ⟨h1, h2⟩ | ⟨h1, h2, h3⟩ | ⟨h1, h2, h3, h4⟩ | ⟨h1, h2, h3, h4⟩
 case' inr.inr.inr.inr => have hw : IntKind.i64.wrap (s - a) = s - a := IntWalk.i64_in _ (by omega)
 case' inr.inr.inr.inl => have hw : IntKind.i64.wrap (s - a) = s - a := IntWalk.i64_in _ (by omega)
 all_goals
  first | rw [if_pos (by omega)] | rw [if_neg (by omega)]
  go_enter Tryz.func151, Tryz.ntmps151
  go_wp2_with (go_at_call 177; refine H.out.mono ?_; rintro e w' ⟨rfl, rfl⟩)
  go_ret
  exact ⟨rfl, rfl⟩
set_option maxRecDepth 100000 in
theorem rread_any (w : World) (p : Value) (m : List Blk) (S : Nat → Prop) (h : RefAt w p m S) (k a n : Int) :
 Calls Tryz.prog 107 #[p, .int .i64 k, .int .i64 a, .int .i64 n] w fun e w' => ∃ v y, e = .returned (.tuple #[v, y, .int .i64 (bcheck m k a n)]) ∧ 
  Own w' 5 1 v (breadB m k a n).length ((breadB m k a n).map bv) ∧ Own w' 3 1 y (breadY m k a n).length ((breadY m k a n).map iv) ∧ Ext w w' ∧
  (∀ k, v.ownBlock = some k → w.heap.size ≤ k) ∧ (∀ k, y.ownBlock = some k → w.heap.size ≤ k) := by
 have hck := rlies_any w p m S h k a n
 obtain ⟨px, lb, ly, V, Y, rfl, hin, _⟩ := h.ex
 have c0 := hin.c0
 have d0 := hin.c1
 have H := Lib.hid hck; clear hck h
 by_cases h0 : bcheck m k a n = 0
 case neg =>
  have hne : (bcheck m k a n != 0) = true := by rw [bne_iff_ne]; exact h0
  have e1 : breadB m k a n = [] := by unfold breadB; rw [if_neg h0]
  have e2 : breadY m k a n = [] := by unfold breadY; rw [if_neg h0]
  rw [e1, e2]; clear e1 e2
  generalize bcheck m k a n = ck at *
  clear h0
  go_enter Tryz.func107, Tryz.ntmps107
  go_wp2_with (go_at_call 151; refine H.out.mono ?_; rintro e w' ⟨rfl, rfl⟩)
  go_ret3
  exact ⟨_, _, rfl, Own.nil _ _ _, Own.nil _ _ _, Mod.refl _ _, fun k hk => by (cases hk), fun k hk => by (cases hk)⟩
 case pos =>
  obtain ⟨q1, q2, q3, q4, q5, q6⟩ := bcheck_0 h0
  have e1 : breadB m k a n = cut (blk m k.toNat).b a.toNat n.toNat := by unfold breadB; rw [if_pos h0]
  have e2 : breadY m k a n = cut (blk m k.toNat).y a.toNat n.toNat := by unfold breadY; rw [if_pos h0]
  rw [e1, e2]; clear e1 e2
  rw [h0] at H
  rw [h0]
  clear h0 q6
  obtain ⟨i, rfl⟩ := Int.eq_ofNat_of_zero_le q1
  obtain ⟨a, rfl⟩ := Int.eq_ofNat_of_zero_le q3
  obtain ⟨n, rfl⟩ := Int.eq_ofNat_of_zero_le q4
  simp only [Int.toNat_natCast] at q5 ⊢
  have q2' : i < m.length := by omega
  have i0 := hin.rb.sl.run_idx (P := Tryz.prog) IBB.und IBB.size .i64 i q2'
  have j0 := hin.ry.sl.run_idx (P := Tryz.prog) IYY.und IYY.size .i64 i q2'
  simp only [Nat.mul_one] at i0 j0
  have c1 := hin.cV q2'
  have c2 := hin.cY q2'
  have b1 := hin.bs i q2'
  have b2 := hin.ys i q2'
  have htop := hin.ok.top i q2'
  have hlen := hin.ok.len i q2'
  have s1 := b1.sl.run_sub (P := Tryz.prog) IB.und IB.size .i64 .i64 a (a + n) (by omega) (by omega)
  have s2 := b2.sl.run_sub (P := Tryz.prog) II.und II.size .i64 .i64 a (a + n) (by omega) (by omega)
  have Hl := Lib.hid hlen; clear hlen
  have w1 : (a : Int) + (n : Int) ≤ 256 := by omega
  simp only [Int.natCast_add] at s1 s2
  go_enter Tryz.func107, Tryz.ntmps107
  go_wp2_with (go_at_call 151; refine H.out.mono ?_; rintro e w' ⟨rfl, rfl⟩)
  have hwr : IntKind.i64.wrap ((a : Int) + (n : Int)) = (a : Int) + (n : Int) := IntWalk.i64_in _ (by omega)
  have hS : ∀ w', Ext w w' → (w'.cell? ⟨px, 0, none⟩ = some lb ∧ w'.cell? ⟨px, 1, none⟩ = some ly ∧ w'.cell? (at_ lb i) = some (V i) ∧ w'.cell? (at_ ly i) = some (Y i) ∧ Ext w w') := fun w' h => ⟨h.cell c0, h.cell d0, h.cell c1, h.cell c2, h⟩
  have hB : ∀ w', Ext w w' → BytesAt w' (sub_ (V i) a (a + n) 1) (cut (blk m i).b a n) := fun w' hw => cut_bytes (b1.sl.ext (by decide) hw) (by omega)
  have hI : ∀ w', Ext w w' → IntsAt w' (sub_ (Y i) a (a + n) 1) (cut (blk m i).y a n) := fun w' hw => cut_ints ⟨b2.sl.ext (by decide) hw, hin.ok.ok i q2'⟩ (by have := Hl.out; omega)
  clear c0 d0 c1 c2
  go_region_held3 (fun w' => w'.cell? ⟨px, 0, none⟩ = some lb ∧ w'.cell? ⟨px, 1, none⟩ = some ly ∧ w'.cell? (at_ lb i) = some (V i) ∧ w'.cell? (at_ ly i) = some (Y i) ∧ Ext w w') (first | exact hS _ E2 | exact hS _ E1 | exact hS _ (Mod.refl _ _).drew)
   (first | (go_at_call 122; refine (copy_bytes _ _ (cut (blk m i).b a n) (hB _ (And.right (And.right (And.right (And.right (by assumption)))))) (by rw [cut_len (by omega)]; omega)).mono ?_; rintro e w1 ⟨v1, rfl, o1, x1, f1⟩; have E1 := Mod.trans (And.right (And.right (And.right (And.right ‹_ ∧ _ ∧ _ ∧ _ ∧ Ext w _›)))) x1) | (go_at_call 152; refine (copy_ints _ _ (cut (blk m i).y a n) (hI _ (And.right (And.right (And.right (And.right (by assumption)))))) (by rw [cut_len (by have := Hl.out; omega)]; omega)).mono ?_; rintro e w2 ⟨v2, rfl, o2, x2, f2⟩; have E2 := Mod.trans (And.right (And.right (And.right (And.right ‹_ ∧ _ ∧ _ ∧ _ ∧ Ext w _›)))) x2))
  go_wp2
  go_ret3
  exact ⟨_, _, rfl, by simpa using o1.ext x2, by simpa using o2, E2, fun k hk => f1 k hk, fun k hk => Nat.le_trans E1.size (f2 k hk)⟩
end Go.Proofs.YtbhocahmhmafmaaGreat
namespace Go.Proofs.YtbhocahmhmafmaaGreat
open Go.Ren Go.RowKit
set_option linter.unusedVariables false
theorem two_set {w : World} {k : Nat} {a b : Value} {t : TypeId} (h : w.heap[k]? = some (.cells #[a, b] t (0, 0))) (u : Value) : (w.setCell ⟨k, 0, none⟩ u).heap[k]? = some (.cells #[u, b] t (0, 0)) := by
 simp [World.setCell, Array.getElem?_modify, h]
theorem two_set1 {w : World} {k : Nat} {a b : Value} {t : TypeId} (h : w.heap[k]? = some (.cells #[a, b] t (0, 0))) (u : Value) : (w.setCell ⟨k, 1, none⟩ u).heap[k]? = some (.cells #[a, u] t (0, 0)) := by
 simp [World.setCell, Array.getElem?_modify, h]
theorem two_free {w : World} {k : Nat} {a b : Value} {t : TypeId} (h : w.heap[k]? = some (.cells #[a, b] t (0, 0))) (j : Nat) : w.frozen? ⟨k, j, none⟩ = false := by
 simp [World.frozen?, h]
theorem push_flat (n : Nat) (V : Nat → Value) (u : Value) : flat 1 (n + 1) (fun i _ => upd V n u i) = flat 1 n (fun i _ => V i) ++ [u] := by
 rw [flat_succ _ _ _ (by decide)]
 have e1 : flat 1 n (fun i _ => upd V n u i) = flat 1 n (fun i _ => V i) := flat_congr fun i j hi _ => upd_lt hi
 rw [e1]; simp [upd_same]
theorem ref_push {w wr w2 w4 : World} {px : Nat} {lb ly lb' ly' vb vy : Value} {V Y : Nat → Value} {m : List Blk} {B : Blk} (hin : RefIn w px lb ly V Y m) (x : Ext w wr)
 (M2 : Mod (fun q => lb.ownBlock = some q) wr w2) (ol : Own w2 68 1 lb' (m.length + 1) (flat 1 m.length (fun i _ => V i) ++ [vb])) (fr : ∀ k, lb'.ownBlock = some k → lb.ownBlock = some k ∨ wr.heap.size ≤ k)
 (ob : Own w2 5 1 vb B.b.length (B.b.map bv)) (oy : Own wr 3 1 vy B.y.length (B.y.map iv)) (nb : ∀ k, vb.ownBlock = some k → wr.heap.size ≤ k) (ny : ∀ k, vy.ownBlock = some k → w.heap.size ≤ k)
 (M4 : Mod (fun q => ly.ownBlock = some q) (w2.setCell ⟨px, 0, none⟩ lb') w4) (oy4 : Own w4 33 1 ly' (m.length + 1) (flat 1 m.length (fun i _ => Y i) ++ [vy])) (fr4 : ∀ k, ly'.ownBlock = some k → ly.ownBlock = some k ∨ wr.heap.size ≤ k)
 (h1 : B.y.length = B.b.length) (h2 : B.b.length ≤ 256) (h3 : ∀ x ∈ B.y, I64 x) (hc : m.length < 16) :
 RefIn (w4.setCell ⟨px, 1, none⟩ ly') px lb' ly' (upd V m.length vb) (upd Y m.length vy) (m ++ [B]) ∧ Mod (RefFp px lb ly V Y m.length) w (w4.setCell ⟨px, 1, none⟩ ly') ∧
  ∀ k, RefFp px lb' ly' (upd V m.length vb) (upd Y m.length vy) (m ++ [B]).length k → RefFp px lb ly V Y m.length k ∨ w.heap.size ≤ k := by
 have R0 := hin.rb.ext x
 have Y0 := hin.ry.ext x
 have B0 := x.blk hin.box
 have B2 := M2.blk B0 (fun e => R0.apart_obj B0 (by decide) e)
 have B3 := two_set B2 lb'
 have Y2 := Y0.mod M2 (fun k hk hl => Y0.apart R0 (by decide) hk hl)
 have M3 : Mod (fun q => q = px) w2 (w2.setCell ⟨px, 0, none⟩ lb') := Mod.setCell (F := fun q => q = px) (Mod.refl _ _) (.inl rfl) _
 have Y3 := Y2.mod M3 (fun k hk hl => by subst hl; exact Y2.apart_obj B2 (by decide) hk)
 have B4 := M4.blk B3 (fun e => Y3.apart_obj B3 (by decide) e)
 have B5 := two_set1 B4 ly'
 have M5 : Mod (fun q => q = px) w4 (w4.setCell ⟨px, 1, none⟩ ly') := Mod.setCell (F := fun q => q = px) (Mod.refl _ _) (.inl rfl) _
 have k35 : ∀ {e : TypeId} {v : Value} {n : Nat} {xs : List Value}, e ≠ 33 → e ≠ 82 → Own w2 e 1 v n xs → Own (w4.setCell ⟨px, 1, none⟩ ly') e 1 v n xs := fun {e v n xs} he he2 ho =>
  have ho3 := ho.mod M3 (fun k hk hl => by subst hl; exact ho.apart_obj B2 he2 hk)
  have ho4 := ho3.mod M4 (fun k hk hl => ho3.apart Y3 he hk hl)
  ho4.mod M5 (fun k hk hl => by subst hl; exact ho4.apart_obj B4 he2 hk)
 have k05 : ∀ {e : TypeId} {v : Value} {n : Nat} {xs : List Value}, e ≠ 68 → e ≠ 33 → e ≠ 82 → Own wr e 1 v n xs → Own (w4.setCell ⟨px, 1, none⟩ ly') e 1 v n xs := fun {e v n xs} he0 he he2 ho =>
  k35 he he2 (ho.mod M2 (fun k hk hl => ho.apart R0 he0 hk hl))
 have hlen : (m ++ [B]).length = m.length + 1 := by simp
 refine ⟨⟨B5, ?_, ?_, ?_, ?_, ?_, ?_, ?_⟩, ?_, ?_⟩
 · rw [hlen, push_flat]; exact k35 (by decide) (by decide) ol
 · rw [hlen, push_flat]; exact oy4.mod M5 (fun k hk hl => by subst hl; exact oy4.apart_obj B4 (by decide) hk)
 · intro i hi
   rw [hlen] at hi
   by_cases e : i = m.length
   · subst e; rw [blk_snoc, upd_same]; exact k35 (by decide) (by decide) ob
   · have hi' : i < m.length := by omega
     rw [blk_snoc_lt hi', upd_lt hi']; exact k05 (by decide) (by decide) (by decide) ((hin.bs i hi').ext x)
 · intro i hi
   rw [hlen] at hi
   by_cases e : i = m.length
   · subst e; rw [blk_snoc, upd_same]; exact k05 (by decide) (by decide) (by decide) oy
   · have hi' : i < m.length := by omega
     rw [blk_snoc_lt hi', upd_lt hi']; exact k05 (by decide) (by decide) (by decide) ((hin.ys i hi').ext x)
 · intro i j k hi hj h4 h5
   rw [hlen] at hi hj
   by_cases e : i = m.length <;> by_cases e' : j = m.length
   · omega
   · subst e; have hj' : j < m.length := by omega
     rw [upd_same] at h4; rw [upd_lt hj'] at h5
     have := nb k h4; have := (hin.bs j hj').lt h5; have := x.size; omega
   · subst e'; have hi' : i < m.length := by omega
     rw [upd_same] at h5; rw [upd_lt hi'] at h4
     have := nb k h5; have := (hin.bs i hi').lt h4; have := x.size; omega
   · have hi' : i < m.length := by omega
     have hj' : j < m.length := by omega
     rw [upd_lt hi'] at h4; rw [upd_lt hj'] at h5; exact hin.dV i j k hi' hj' h4 h5
 · intro i j k hi hj h4 h5
   rw [hlen] at hi hj
   by_cases e : i = m.length <;> by_cases e' : j = m.length
   · omega
   · subst e; have hj' : j < m.length := by omega
     rw [upd_same] at h4; rw [upd_lt hj'] at h5
     have := ny k h4; have := (hin.ys j hj').lt h5; omega
   · subst e'; have hi' : i < m.length := by omega
     rw [upd_same] at h5; rw [upd_lt hi'] at h4
     have := ny k h5; have := (hin.ys i hi').lt h4; omega
   · have hi' : i < m.length := by omega
     have hj' : j < m.length := by omega
     rw [upd_lt hi'] at h4; rw [upd_lt hj'] at h5; exact hin.dY i j k hi' hj' h4 h5
 · refine ⟨by rw [hlen]; omega, ?_, ?_, ?_⟩
   all_goals
    intro i hi
    rw [hlen] at hi
    by_cases e : i = m.length
    · subst e; rw [blk_snoc]; assumption
    · have hi' : i < m.length := by omega
      rw [blk_snoc_lt hi']; first | exact hin.ok.len i hi' | exact hin.ok.top i hi' | exact hin.ok.ok i hi'
 · exact ((((x.mod (RefFp px lb ly V Y m.length)).trans' M2 (fun i hi => .inl (.inr (.inl hi)))).trans' M3 (fun i hi => .inl (.inl hi))).trans' M4 (fun i hi => .inl (.inr (.inr (.inl hi))))).trans' M5 (fun i hi => .inl (.inl hi))
 · intro k hk
   rcases hk with rfl | hk | hk | ⟨i, hi, hk⟩
   · exact .inl (.inl rfl)
   · exact (fr k hk).imp (fun h => .inr (.inl h)) (fun h => Nat.le_trans x.size h)
   · exact (fr4 k hk).imp (fun h => .inr (.inr (.inl h))) (fun h => Nat.le_trans x.size h)
   · rw [hlen] at hi
     by_cases e : i = m.length
     · subst e; rw [upd_same, upd_same] at hk; exact .inr (hk.elim (fun h => Nat.le_trans x.size (nb k h)) (ny k))
     · have hi' : i < m.length := by omega
       rw [upd_lt hi', upd_lt hi'] at hk; exact .inl (.inr (.inr (.inr ⟨i, hi', hk⟩)))
set_option maxRecDepth 100000 in
theorem rmake_any (w : World) (p : Value) (m : List Blk) (S : Nat → Prop) (h : RefAt w p m S) (size : Int) :
 Calls Tryz.prog 120 #[p, .int .i64 size] w fun e w' => e = .returned (.tuple #[.int .i64 (bmakeN m size), .int .i64 (bmakeE m size)]) ∧
  ∃ S', RefAt w' p (bmake m size) S' ∧ Mod S w w' ∧ ∀ k, S' k → S k ∨ w.heap.size ≤ k := by
 by_cases h0 : bmakeE m size = 0
 case neg =>
  have en : bmakeN m size = 0 := by unfold bmakeN; rw [if_neg h0]
  have eb : bmake m size = m := by unfold bmake; rw [if_neg h0]
  rw [en, eb]
  have h00 := h0
  clear en eb h0
  obtain ⟨px, lb, ly, V, Y, rfl, hin, hS0⟩ := h.ex
  clear hS0
  have c0 := hin.c0
  have l0 := hin.rb.sl.run_len (P := Tryz.prog) IBB.und 3
  clear hin
  unfold bmakeE
  by_cases h1 : size < 0
  · rw [if_pos (by omega)]
    go_enter Tryz.func120, Tryz.ntmps120
    go_wp2
    go_ret2
    exact ⟨rfl, S, h, Mod.refl _ _, fun k hk => .inl hk⟩
  by_cases h2 : 256 < size
  · rw [if_pos (by omega)]
    go_enter Tryz.func120, Tryz.ntmps120
    go_wp2
    go_ret2
    exact ⟨rfl, S, h, Mod.refl _ _, fun k hk => .inl hk⟩
  rw [if_neg (by omega)]
  by_cases h3 : 16 ≤ m.length
  · have h3' : (16 : Int) ≤ (m.length : Int) := by omega
    rw [if_pos h3]
    go_enter Tryz.func120, Tryz.ntmps120
    go_wp2
    go_ret2
    exact ⟨rfl, S, h, Mod.refl _ _, fun k hk => .inl hk⟩
  · exact absurd (by unfold bmakeE; rw [if_neg (by omega), if_neg h3]) h00
 case pos =>
  obtain ⟨px, lb, ly, V, Y, rfl, hin, hS⟩ := h.ex
  have HS := Lib.hid hS
  clear hS h
  have c0 := hin.c0
  have l0 := hin.rb.sl.run_len (P := Tryz.prog) IBB.und 3
  have hr : 0 ≤ size ∧ size ≤ 256 ∧ m.length < 16 := by unfold bmakeE at h0; split at h0; omega; split at h0; omega; omega
  obtain ⟨r1, r2, r3⟩ := hr
  obtain ⟨n, rfl⟩ := Int.eq_ofNat_of_zero_le r1
  have m1 := run_make_row' (P := Tryz.prog) 68 5 (.int .u8 0) 1 IB.und IB.info rfl .i64 .i64 n (by omega) (by omega)
  have m2 := run_make_row' (P := Tryz.prog) 33 3 (.int .i64 0) 8 II.und II.info rfl .i64 .i64 n (by omega) (by omega)
  have r4 : ¬ (16 : Int) ≤ (m.length : Int) := by omega
  clear h0
  go_enter Tryz.func120, Tryz.ntmps120
  go_wp2_with fail
  obtain ⟨wc, hwc⟩ : ∃ wc, wc = w.alloc (.cells (madeCells #[.int .i64 0] n) 3) := ⟨_, rfl⟩
  have x1 : Ext w wc := by rw [hwc]; exact (Mod.refl _ _).alloc _
  have oy : Own wc 3 1 (.slice (some ⟨w.heap.size, 0, none⟩) n n) n (fillTo n 0) := by rw [fillTo_0]; exact Own.made_at (by rw [hwc]; simp only [heap_alloc_if, if_true]) (by simp only [maxLen]; omega)
  obtain ⟨gy, hgy⟩ : ∃ gy, gy = w.heap.size := ⟨_, rfl⟩
  rw [← hwc, ← hgy]
  rw [← hgy] at oy
  have HG := Lib.hid hgy
  clear hwc hgy
  go_loopw [7] (fun s7 wr => ∃ k : Nat, k ≤ n ∧ s7 = .int .i64 k ∧ Mod (fun b => b = gy) wc wr ∧ Own wr 3 1 (.slice (some ⟨gy, 0, none⟩) n n) n (fillTo n k)) (fun i _ => n - (intOf i).toNat)
  case atStart => exact ⟨0, Nat.zero_le _, rfl, Mod.refl _ _, oy⟩
  case round =>
   obtain ⟨k, hk, rfl, xr, or⟩ := hrel
   by_cases hlt : k < n
   · have hlt' : (k : Int) < (n : Int) := by omega
     have fr : wr.frozen? ⟨gy, k, none⟩ = false := World.ownsRow.frozenAt or k
     have cr : wr.cell? ⟨gy, k, none⟩ = some (iv 0) := by rw [World.ownsRow.cellAt or k (by omega), fillTo_get (Nat.le_refl _) hlt]
     have os := (World.ownsRow.stored or k (iv (-1))).1
     rw [fillTo_set] at os
     have xs : Mod (fun b => b = gy) wc (wr.setCell ⟨gy, k, none⟩ (iv (-1))) := xr.setCell (.inl rfl) _
     have OS := Lib.hid (And.intro os xs)
     have i0 := or.sl.run_idx (P := Tryz.prog) II.und II.size .i64 k hlt
     simp only [Nat.mul_one, at_own] at i0
     clear os xs oy m1 m2
     go_wp2_with fail
     go_roundw
     case rel => exact ⟨k + 1, by omega, by go_num, OS.out.2, OS.out.1⟩
     case measure => simp [intOf]; omega
   · have hlt' : ¬ (k : Int) < (n : Int) := by omega
     obtain rfl : k = n := by omega
     have x2 : Ext w wr := x1.trans' xr (by rintro i rfl; exact .inr (by have := HG.out; omega))
     have Ref1 := hin.to (fun q hq => x2.block q (hin.lt hq) (fun h => h))
     have C0 := Ref1.c0
     have C1 := Ref1.c1
     have l0 := hin.rb.sl.run_len (P := Tryz.prog) IBB.und 3
     have F0 := two_free Ref1.box
     have hpl : lb.ownBlock ≠ some px := fun e => Ref1.rb.apart_obj Ref1.box (by decide) e
     have R0 := Ref1.rb
     have X2 := Lib.hid (And.intro x2 Ref1)
     clear x2 Ref1 oy c0
     go_wp2_with fail
     have one1 : ∀ x ∈ [Value.slice (some ⟨wr.heap.size, 0, none⟩) k k], x.oneCell' = true := by intro x hx; simp at hx; subst hx; rfl
     have px_lt : px < wr.heap.size := lt_of_block X2.out.2.box
     go_region_law (refine step_app IBB rfl (.tmp 34) (.tmp 37) rfl (R0.ext ?_) (built_sl (n := 1) (g := wr.heap.size + 1) (e := 68) (cs := #[.slice (some ⟨wr.heap.size, 0, none⟩) k k]) ?_ rfl (by simp only [maxLen]; omega)) one1 ?_ ?_ (by omega) (by simp only [maxLen]; omega) ?_; (repeat (first | exact Mod.refl _ _ | apply Mod.drew | apply Mod.alloc)); (simp only [heap_alloc_if, heap_drew, World.size_alloc, if_true]); (simp [Act.eval]); (simp [Act.eval]); intro lv' w2 ol2 gr2 fr2 nn2; obtain ⟨la, lc, hlv, _⟩ := ol2.sl.shape; subst hlv; have M2 : Mod (fun q => lb.ownBlock = some q) wr w2 := Mod.grown (by repeat (first | exact Mod.refl _ _ | apply Mod.drew | apply Mod.alloc)) gr2 (fun q h => .inl h); have B2 := M2.blk X2.out.2.box hpl; have c2 : w2.cell? ⟨px, 0, none⟩ = some lb := (by simp [World.cell?, B2]); have f2 := two_free B2 0; have OB := Own.mod (Own.made_at (z := .int .u8 0) (e := 5) (g := wr.heap.size) (n := k) (by simp only [heap_alloc_if, heap_drew, World.size_alloc]; rw [if_neg (by omega), if_pos trivial]) (by simp only [maxLen]; omega)) (Mod.grown (F := fun q => lb.ownBlock = some q) (Mod.refl _ _) gr2 (fun q h => .inl h)) (fun q hq hl => by have h1 := R0.lt hl; have h2 : wr.heap.size = q := (by simpa [Value.ownBlock] using hq); omega))
     all_goals (have F2 : ∀ q, (Value.slice la (m.length + 1) lc).ownBlock = some q → lb.ownBlock = some q ∨ wr.heap.size ≤ q := fun q hq => (fr2 q hq).imp id (fun h => by (try simp only [World.size_alloc, World.size_drew] at h); omega))
     all_goals
      have B3 := two_set B2 (Value.slice la (m.length + 1) lc)
      have M3 : Mod (fun q => q = px) w2 (w2.setCell ⟨px, 0, none⟩ (Value.slice la (m.length + 1) lc)) := Mod.setCell (F := fun q => q = px) (Mod.refl _ _) (.inl rfl) _
      have Y0 := X2.out.2.ry
      have Y2 := Y0.mod M2 (fun k hk hl => Y0.apart R0 (by decide) hk hl)
      have Y3 := Y2.mod M3 (fun k hk hl => by subst hl; exact Y2.apart_obj B2 (by decide) hk)
      have hy3 : ly.ownBlock ≠ some px := fun e => Y3.apart_obj B3 (by decide) e
      obtain ⟨w3, hw3⟩ : ∃ w3, w3 = w2.setCell ⟨px, 0, none⟩ (Value.slice la (m.length + 1) lc) := ⟨_, rfl⟩
      have z3 : w3.heap.size = w2.heap.size := by rw [hw3]; simp [World.setCell]
      rw [← hw3] at B3 Y3 ⊢
      have c3 : w3.cell? ⟨px, 1, none⟩ = some ly := by simp [World.cell?, B3]
      have z2 : wr.heap.size ≤ w2.heap.size := M2.size
      have HP := Lib.hid (And.intro OB (And.intro F2 (And.intro M2 (And.intro ol2 hw3))))
      have B3h := Lib.hid B3
      clear OB F2 M2 ol2 gr2 fr2 B3 M3 Y0 Y2 hw3 c2 f2 F0 C0 C1 nn2 m1 m2
      have one2 : ∀ x ∈ [Value.slice (some ⟨gy, 0, none⟩) k k], x.oneCell' = true := by intro x hx; simp at hx; subst hx; rfl
      go_wp2_with (at_builtin; go_loud (refine wpList_app IYY rfl (.tmp 45) (.tmp 47) rfl (Y3.ext (Mod.alloc (Mod.refl _ _) _)) (built_sl (n := 1) (g := w3.heap.size) (e := 33) (cs := #[Value.slice (some ⟨gy, 0, none⟩) k k]) (by simp only [heap_alloc_if, if_true]) rfl (by simp only [maxLen]; omega)) one2 (by simp [Act.eval]) (by simp [Act.eval]) (by omega) (by simp only [maxLen]; omega) ?_); intro ly' w4 ol4 gr4 fr4 nn4; obtain ⟨lya, lyc, hly, _⟩ := ol4.sl.shape; subst hly; have M4 : Mod (fun q => ly.ownBlock = some q) w3 w4 := Mod.grown (Mod.alloc (Mod.refl _ _) _) gr4 (fun q h => .inl h); have B4 := M4.blk B3h.out hy3; have c4 : w4.cell? ⟨px, 1, none⟩ = some ly := (by simp [World.cell?, B4]); have f4 := two_free B4 1; have c40 : w4.cell? ⟨px, 0, none⟩ = some (Value.slice la (m.length + 1) lc) := (by simp [World.cell?, B4]); have HQ := Lib.hid (And.intro ol4 (And.intro M4 (And.intro fr4 B4))); clear ol4 gr4 fr4 nn4 M4 B4)
      go_ret2
      obtain ⟨OB, F2, M2, ol2, hw3⟩ := HP.out
      obtain ⟨ol4, M4, fr4, B4⟩ := HQ.out
      rw [hw3] at M4 fr4
      have F4 : ∀ q, (Value.slice lya (m.length + 1) lyc).ownBlock = some q → ly.ownBlock = some q ∨ wr.heap.size ≤ q := fun q hq => (fr4 q hq).imp id (fun h => by simp [World.setCell] at h; omega)
      have oy' : Own wr 3 1 (.slice (some ⟨gy, 0, none⟩) k k) (newBlk k).y.length ((newBlk k).y.map iv) := by have h := or; rw [fillTo_n] at h; simpa [newBlk] using h
      obtain ⟨P1, P2, P3⟩ := ref_push (B := newBlk k) hin X2.out.1 M2 ol2 F2 (by simpa [newBlk, bv] using OB) oy' (fun q hq => by simp [Value.ownBlock] at hq; omega) (fun q hq => by simp [Value.ownBlock] at hq; have := HG.out; omega) M4 ol4 F4 (by simp [newBlk]) (by simp [newBlk]; omega) (by intro x hx; simp [newBlk] at hx; simp [I64, hx.2]) r3
      have em : bmakeE m (k : Int) = 0 := by unfold bmakeE; rw [if_neg (by omega), if_neg (by omega)]
      have en : bmakeN m (k : Int) = (m.length : Int) := by unfold bmakeN; rw [if_pos em]
      have eb : bmake m (k : Int) = m ++ [newBlk k] := by unfold bmake; rw [if_pos em, Int.toNat_natCast]
      exact ⟨by rw [em, en]; rfl, _, ⟨px, _, _, _, _, rfl, by rw [eb]; exact P1, fun q => by rw [eb]⟩, P2.weak (fun q hq => .inl ((HS.out q).2 hq)), fun q hq => (P3 q hq).imp (HS.out q).2 id⟩
end Go.Proofs.YtbhocahmhmafmaaGreat
namespace Go.Proofs.YtbhocahmhmafmaaGreat
open Go.Ren Go.RowKit
set_option linter.unusedVariables false
theorem ref_write {w w2 : World} {px : Nat} {lb ly : Value} {V Y : Nat → Value} {m : List Blk} (hin : RefIn w px lb ly V Y m) {i : Nat} (hi : i < m.length) (M : Mod (fun q => (V i).ownBlock = some q ∨ (Y i).ownBlock = some q) w w2)
 {B : Blk} (ob : Own w2 5 1 (V i) B.b.length (B.b.map bv)) (oy : Own w2 3 1 (Y i) B.y.length (B.y.map iv)) (h1 : B.y.length = B.b.length) (h2 : B.b.length ≤ 256) (h3 : ∀ x ∈ B.y, I64 x) : RefIn w2 px lb ly V Y (m.set i B) := by
 have hb := hin.bs i hi
 have hy := hin.ys i hi
 refine ⟨M.blk hin.box (fun h => h.elim (fun h => hb.apart_obj hin.box (by decide) h) (fun h => hy.apart_obj hin.box (by decide) h)), ?_, ?_, ?_, ?_, ?_, ?_, ?_⟩
 · rw [List.length_set]
   exact hin.rb.mod M (fun k hk h => h.elim (fun h => hb.apart hin.rb (by decide) h hk) (fun h => hy.apart hin.rb (by decide) h hk))
 · rw [List.length_set]
   exact hin.ry.mod M (fun k hk h => h.elim (fun h => hb.apart hin.ry (by decide) h hk) (fun h => hy.apart hin.ry (by decide) h hk))
 · intro j hj
   rw [List.length_set] at hj
   by_cases e : j = i
   · subst e; rw [blk_set_same hi]; exact ob
   · rw [blk_set_other e]
     exact (hin.bs j hj).mod M (fun k hk h => h.elim (fun h => e (hin.dV j i k hj hi hk h)) (fun h => hy.apart (hin.bs j hj) (by decide) h hk))
 · intro j hj
   rw [List.length_set] at hj
   by_cases e : j = i
   · subst e; rw [blk_set_same hi]; exact oy
   · rw [blk_set_other e]
     exact (hin.ys j hj).mod M (fun k hk h => h.elim (fun h => hb.apart (hin.ys j hj) (by decide) h hk) (fun h => e (hin.dY j i k hj hi hk h)))
 · intro a b k ha hb' h4 h5; rw [List.length_set] at ha hb'; exact hin.dV a b k ha hb' h4 h5
 · intro a b k ha hb' h4 h5; rw [List.length_set] at ha hb'; exact hin.dY a b k ha hb' h4 h5
 · refine ⟨by rw [List.length_set]; exact hin.ok.cnt, ?_, ?_, ?_⟩
   all_goals
    intro j hj
    rw [List.length_set] at hj
    by_cases e : j = i
    · subst e; rw [blk_set_same hi]; assumption
    · rw [blk_set_other e]; first | exact hin.ok.len j hj | exact hin.ok.top j hj | exact hin.ok.ok j hj
theorem splice_one {α : Type} (L x : List α) (a k : Nat) (hk : k < x.length) (hl : a + x.length ≤ L.length) : (splice L a (x.take k)).set (a + k) x[k] = splice L a (x.take (k + 1)) := by
 have l1 : (x.take k).length = k := by simp; omega
 have l2 : (x.take (k + 1)).length = k + 1 := by simp; omega
 have l3 := length_splice L a (x.take k) (by omega)
 apply List.ext_getElem?
 intro j
 rw [List.getElem?_set, splice_get _ _ _ (by omega), splice_get _ _ _ (by omega), l1, l2, l3]
 by_cases e : a + k = j
 · subst e
   rw [if_pos rfl, if_pos (by omega), if_pos (by omega)]
   rw [show a + k - a = k by omega, List.getElem?_take, if_pos (by omega), List.getElem?_eq_getElem hk]
 · rw [if_neg e]
   by_cases h : a ≤ j ∧ j < a + k
   · rw [if_pos h, if_pos (by omega), List.getElem?_take, List.getElem?_take, if_pos (by omega), if_pos (by omega)]
   · rw [if_neg h, if_neg (by omega)]
set_option maxRecDepth 100000 in
theorem rwrite_any (w : World) (p : Value) (m : List Blk) (S : Nat → Prop) (h : RefAt w p m S) (k a : Int) (u : Value) (x : List UInt8) (hu : BytesAt w u x) (hd : ∀ q, fp u q → ¬ S q) (hx : x.length ≤ 1000000) (by_ : Int) (hby : I64 by_) :
 Calls Tryz.prog 112 #[p, .int .i64 k, .int .i64 a, u, .int .i64 by_] w fun e w' => e = .returned (.int .i64 (bcheck m k a x.length)) ∧ RefAt w' p (bwrite m k a x by_) S ∧ Mod S w w' := by
 have hck := rlies_any w p m S h k a x.length
 have lu := Sl.run_len (P := Tryz.prog) hu IB.und 3
 by_cases h0 : bcheck m k a x.length = 0
 case neg =>
  have hne : (bcheck m k a x.length == 0) = false := beq_eq_false_iff_ne.2 h0
  have eb : bwrite m k a x by_ = m := by unfold bwrite; rw [if_neg h0]
  rw [eb]; clear eb
  have H := Lib.hid hck; have HB := Lib.hid h; clear hck h h0 hu
  generalize bcheck m k a x.length = ck at *
  go_enter Tryz.func112, Tryz.ntmps112
  go_wp2_with (go_at_call 151; refine H.out.mono ?_; rintro e w' ⟨rfl, rfl⟩)
  go_loopw [12] (fun s12 wr => s12 = .int .i64 0 ∧ wr = w) (fun i _ => 0)
  case atStart => exact ⟨rfl, rfl⟩
  case round =>
   obtain ⟨rfl, rfl⟩ := hrel
   by_cases hp : 0 < x.length
   · have hp' : (0 : Int) < (x.length : Int) := by omega
     go_wp2_with fail
     go_ret
     exact ⟨rfl, HB.out, Mod.refl _ _⟩
   · have hp' : ¬ (0 : Int) < (x.length : Int) := by omega
     go_wp2_with fail
     go_ret
     exact ⟨rfl, HB.out, Mod.refl _ _⟩
 case pos =>
  obtain ⟨px, lb, ly, V, Y, rfl, hin, hS⟩ := h.ex
  obtain ⟨q1, q2, q3, q4, q5, q6⟩ := bcheck_0 h0
  have eb : bwrite m k a x by_ = m.set k.toNat (wBlk (blk m k.toNat) a.toNat x by_) := by unfold bwrite; rw [if_pos h0]
  rw [eb, h0]; clear eb
  rw [h0] at hck
  obtain ⟨i, rfl⟩ := Int.eq_ofNat_of_zero_le q1
  obtain ⟨a, rfl⟩ := Int.eq_ofNat_of_zero_le q3
  simp only [Int.toNat_natCast] at q5 ⊢
  have q2' : i < m.length := by omega
  have HS := Lib.hid hS
  have H := Lib.hid hck
  have HD := Lib.hid hd
  clear h0 q6 q1 q3 q4 hck hS h hd
  have htop := hin.ok.top i q2'
  have hyl := hin.ok.len i q2'
  have hlo : a + x.length ≤ (blk m i).b.length := by omega
  have HY := Lib.hid hyl
  clear hyl
  go_enter Tryz.func112, Tryz.ntmps112
  go_wp2_with (go_at_call 151; refine H.out.mono ?_; rintro e w' ⟨rfl, rfl⟩)
  go_loopw [12] (fun s12 wr => ∃ k : Nat, k ≤ x.length ∧ s12 = .int .i64 k ∧ Mod (fun q => (V i).ownBlock = some q ∨ (Y i).ownBlock = some q) w wr ∧
   Own wr 5 1 (V i) (blk m i).b.length ((splice (blk m i).b a (x.take k)).map bv) ∧ Own wr 3 1 (Y i) (blk m i).y.length ((splice (blk m i).y a (List.replicate k by_)).map iv)) (fun i _ => x.length - (intOf i).toNat)
  case atStart => exact ⟨0, Nat.zero_le _, rfl, Mod.refl _ _, by rw [List.take_zero, splice_nil]; exact hin.bs i q2', by rw [List.replicate_zero, splice_nil]; exact hin.ys i q2'⟩
  case round =>
   obtain ⟨k, hk, rfl, xr, ob, oy⟩ := hrel
   have b1 := hin.bs i q2'
   have b2 := hin.ys i q2'
   by_cases hlt : k < x.length
   · have hlt' : (k : Int) < (x.length : Int) := by omega
     have hsum : (a : Int) + (k : Int) ≤ 256 := by omega
     have hbx : ¬ ((V i).ownBlock = some px ∨ (Y i).ownBlock = some px) := fun h => h.elim (fun h => b1.apart_obj hin.box (by decide) h) (fun h => b2.apart_obj hin.box (by decide) h)
     have bx := xr.blk hin.box hbx
     have rb := hin.rb.mod xr (fun k hk h => h.elim (fun h => b1.apart hin.rb (by decide) h hk) (fun h => b2.apart hin.rb (by decide) h hk))
     have ry := hin.ry.mod xr (fun k hk h => h.elim (fun h => b1.apart hin.ry (by decide) h hk) (fun h => b2.apart hin.ry (by decide) h hk))
     have hxu : BytesAt wr u x := BytesAt.mod hu xr (fun q hq h => HD.out q hq ((HS.out q).2 (.inr (.inr (.inr ⟨i, q2', h⟩)))))
     have C0 : wr.cell? ⟨px, 0, none⟩ = some lb := by simp [World.cell?, bx]
     have C1 : wr.cell? (at_ lb i) = some (V i) := rb.sl.cell i _ (flat1 V q2')
     have C2 : wr.cell? (at_ u k) = some (.int .u8 (x[k].toNat : Int)) := BytesAt.cell hxu hlt
     have i0 := hin.rb.sl.run_idx (P := Tryz.prog) IBB.und IBB.size .i64 i q2'
     have j0 := hin.ry.sl.run_idx (P := Tryz.prog) IYY.und IYY.size .i64 i q2'
     have iu := Sl.run_idx (P := Tryz.prog) hu IB.und IB.size .i64 k hlt
     have ib := ob.sl.run_idx (P := Tryz.prog) IB.und IB.size .i64 (a + k) (by omega)
     have iy := oy.sl.run_idx (P := Tryz.prog) II.und II.size .i64 (a + k) (by have := HY.out; omega)
     simp only [Nat.mul_one, Int.natCast_add] at ib iy i0 j0 iu
     have fr := ob.frozen (a + k) (by omega)
     have cr := ob.sl.cell (a + k) _ (List.getElem?_eq_getElem (by rw [List.length_map, length_splice _ _ _ (by simp; omega)]; omega))
     have os := ob.set (by omega) (a + k) (bv x[k])
     have es : ((splice (blk m i).b a (x.take k)).map bv).set (a + k) (bv x[k]) = (splice (blk m i).b a (x.take (k + 1))).map bv := by rw [← List.map_set, splice_one _ _ _ _ hlt hlo]
     rw [es] at os
     have fq : (V i).ownBlock = some (at_ (V i) (a + k)).block := ob.at_block (by omega) _
     have X1 := Lib.hid (And.intro xr (And.intro os (And.intro fq (And.intro rb (And.intro ry (And.intro ob (And.intro oy bx)))))))
     clear es os fq rb ry bx oy ob xr hxu
     go_wp2_with fail
     go_region
     obtain ⟨xr, os, fq, rb, ry, ob, oy, bx⟩ := X1.out
     have M5 : Mod (fun q => (V i).ownBlock = some q) wr (wr.setCell (at_ (V i) (a + k)) (.int .u8 (x[k].toNat : Int))) := Mod.setCell (F := fun q => (V i).ownBlock = some q) (Mod.refl _ _) (.inl fq) _
     obtain ⟨w5, hw5⟩ : ∃ w5, w5 = wr.setCell (at_ (V i) (a + k)) (.int .u8 (x[k].toNat : Int)) := ⟨_, rfl⟩
     have os' : Own w5 5 1 (V i) (blk m i).b.length ((splice (blk m i).b a (x.take (k + 1))).map bv) := by rw [hw5]; exact os
     rw [← hw5] at M5 ⊢
     clear hw5 os X1
     have bx5 := M5.blk bx (fun h => ob.apart_obj bx (by decide) h)
     have ry5 := ry.mod M5 (fun q hq h => ob.apart ry (by decide) h hq)
     have oy5 := oy.mod M5 (fun q hq h => ob.apart oy (by decide) h hq)
     have D0 : w5.cell? ⟨px, 1, none⟩ = some ly := by simp [World.cell?, bx5]
     have D1 : w5.cell? (at_ ly i) = some (Y i) := ry5.sl.cell i _ (flat1 Y q2')
     have fy := oy5.frozen (a + k) (by have := HY.out; omega)
     have cy := oy5.sl.cell (a + k) _ (List.getElem?_eq_getElem (by rw [List.length_map, length_splice _ _ _ (by simp; have := HY.out; omega)]; have := HY.out; omega))
     have oys := oy5.set (by have := HY.out; omega) (a + k) (iv by_)
     have es : ((splice (blk m i).y a (List.replicate k by_)).map iv).set (a + k) (iv by_) = (splice (blk m i).y a (List.replicate (k + 1) by_)).map iv := by rw [← List.map_set, splice_set _ _ _ _ (by have := HY.out; omega)]
     rw [es] at oys
     have fqy : (Y i).ownBlock = some (at_ (Y i) (a + k)).block := oy5.at_block (by have := HY.out; omega) _
     have MT : Mod (fun q => (V i).ownBlock = some q ∨ (Y i).ownBlock = some q) w (w5.setCell (at_ (Y i) (a + k)) (iv by_)) := (xr.trans' M5 (fun q h => .inl (.inl h))).setCell (.inl (.inr fqy)) _
     have ob6 : Own (w5.setCell (at_ (Y i) (a + k)) (iv by_)) 5 1 (V i) (blk m i).b.length ((splice (blk m i).b a (x.take (k + 1))).map bv) :=
      os'.mod (Mod.setCell (F := fun q => (Y i).ownBlock = some q) (Mod.refl _ _) (.inl fqy) _) (fun q hq h => oy5.apart os' (by decide) h hq)
     have OS := Lib.hid (And.intro MT (And.intro ob6 oys))
     clear MT ob6 oys es os' bx5 ry5 oy5 xr M5 fq rb ry ob oy bx fqy
     go_wp2_with fail
     go_roundw
     case rel => exact ⟨k + 1, by omega, by go_num, OS.out.1.drew, OS.out.2.1, OS.out.2.2⟩
     case measure => simp [intOf]; omega
   · have hlt' : ¬ (k : Int) < (x.length : Int) := by omega
     obtain rfl : k = x.length := by omega
     have ob' : Own wr 5 1 (V i) (wBlk (blk m i) a x by_).b.length ((wBlk (blk m i) a x by_).b.map bv) := by
      simp only [wBlk]
      rw [length_splice _ _ _ (by omega)]
      rw [List.take_length] at ob
      exact ob
     have oy' : Own wr 3 1 (Y i) (wBlk (blk m i) a x by_).y.length ((wBlk (blk m i) a x by_).y.map iv) := by
      simp only [wBlk]
      rw [length_splice _ _ _ (by simp; have := HY.out; omega)]
      exact oy
     have P := ref_write hin q2' xr ob' oy' (by simp only [wBlk]; rw [length_splice _ _ _ (by simp; have := HY.out; omega), length_splice _ _ _ (by omega)]; exact HY.out) (by simp only [wBlk]; rw [length_splice _ _ _ (by omega)]; exact htop)
      (by
       intro z hz
       simp only [wBlk, splice, List.mem_append, List.mem_replicate] at hz
       rcases hz with hz | ⟨_, rfl⟩ | hz
       · exact hin.ok.ok i q2' z (List.mem_of_mem_take hz)
       · exact hby
       · exact hin.ok.ok i q2' z (List.mem_of_mem_drop hz))
     have HP := Lib.hid (And.intro P xr)
     clear P xr ob oy ob' oy' b1 b2
     go_wp2_with fail
     go_ret
     refine ⟨rfl, ⟨px, lb, ly, V, Y, rfl, HP.out.1, fun q => ?_⟩, HP.out.2.weak (fun q hq => .inl ((HS.out q).2 (.inr (.inr (.inr ⟨i, q2', hq⟩)))))⟩
     rw [List.length_set]; exact HS.out q
set_option maxRecDepth 100000 in
theorem rall_any (w : World) (p : Value) (m : List Blk) (S : Nat → Prop) (h : RefAt w p m S) :
 Calls Tryz.prog 62 #[p] w fun e w' => ∃ v V, e = .returned v ∧ RowsIn w' v V m.length (fun i => (blk m i).b) ∧ Ext w w' := by
 obtain ⟨px, lb, ly, V, Y, rfl, hin, _⟩ := h.ex
 clear h
 have c00 := hin.c0
 have l0 := hin.rb.sl.run_len (P := Tryz.prog) IBB.und 3
 have hcnt := hin.ok.cnt
 go_enter Tryz.func62, Tryz.ntmps62
 go_wp2
 go_loopw [3, 4] (fun s3 s4 wr => ∃ k V', k ≤ m.length ∧ s4 = .int .i64 (k : Int) ∧ RowsIn wr s3 V' k (fun i => (blk m i).b) ∧ Ext w wr ∧ ∀ q, s3.ownBlock = some q → w.heap.size ≤ q) (fun _ i _ => m.length - (intOf i).toNat)
 case atStart => exact ⟨0, V, Nat.zero_le _, rfl, RowsIn.nil _ _ _, Mod.refl _ _, fun q hq => by cases hq⟩
 case round =>
  obtain ⟨k, V', hk, rfl, hr, x, hf⟩ := hrel
  have c0 := x.cell c00
  by_cases hlt : k < m.length
  · have hlt' : (k : Int) < (m.length : Int) := by omega
    have i0 := hin.rb.sl.run_idx (P := Tryz.prog) IBB.und IBB.size .i64 k hlt
    simp only [Nat.mul_one] at i0
    have c1 := x.cell (hin.cV hlt)
    have b1 := (hin.bs k hlt).ext x
    have htop := hin.ok.top k hlt
    have H := Lib.hid (And.intro hin (And.intro hr (And.intro x (And.intro b1 hf))))
    clear hin hr x b1 hf
    go_wp2_with fail
    refine (copy_bytes _ _ (blk m k).b H.out.2.2.2.1.sl (by omega)).mono ?_
    rintro e w1 ⟨v1, rfl, o1, x1, f1⟩
    rw [List.length_map] at o1
    obtain ⟨la, lc, hv1, _⟩ := o1.sl.shape
    subst hv1
    have XW : Ext wr w1 := x1
    have hr1 := H.out.2.1.ext XW
    have one1 : ∀ x ∈ [Value.slice la (blk m k).b.length lc], x.oneCell' = true := by intro x hx; simp at hx; subst hx; rfl
    have O := Lib.hid (And.intro o1 (And.intro XW f1))
    clear o1 x1 f1 XW
    go_wp2_with (at_builtin; refine wpList_app IBB rfl (.tmp 14) (.tmp 23) rfl (hr1.row.ext (Mod.alloc (Mod.refl _ _) _)) (built_sl (n := 1) (g := w1.heap.size) (e := 68) (cs := #[Value.slice la (blk m k).b.length lc]) (by simp only [heap_alloc_if, if_true]) rfl (by simp only [maxLen]; omega)) one1 (by simp [Act.eval]) (by simp [Act.eval]) (by omega) (by simp only [maxLen]; omega) ?_; intro lv' w2 ol2 gr2 fr2 nn2; have HH := Lib.hid (And.intro ol2 (And.intro gr2 fr2)); clear ol2 gr2 fr2 nn2)
    go_roundw
    case rel =>
     obtain ⟨ol2, gr2, fr2⟩ := HH.out
     have M2 : Mod (fun q => u3.ownBlock = some q) w1 w2 := Mod.grown (Mod.alloc (Mod.refl _ _) _) gr2 (fun q h => .inl h)
     refine ⟨k + 1, _, by omega, by go_num, hr1.push M2 ol2 O.out.1, (H.out.2.2.1.trans O.out.2.1).trans' M2 (fun q hq => .inr (H.out.2.2.2.2 q hq)), fun q hq => ?_⟩
     rcases fr2 q hq with h | h
     · exact H.out.2.2.2.2 q h
     · simp only [World.size_alloc] at h
       have := O.out.2.1.size
       have := H.out.2.2.1.size
       omega
    case measure => simp [intOf]; omega
  · have hlt' : ¬ (k : Int) < (m.length : Int) := by omega
    obtain rfl : k = m.length := by omega
    go_wp2
    go_ret
    exact ⟨_, rfl, ⟨_, hr⟩, x⟩
end Go.Proofs.YtbhocahmhmafmaaGreat
namespace Go.Proofs.YtbhocahmhmafmaaGreat
open Go.Ren Go.RowKit
set_option linter.unusedVariables false
structure RowsOwn (w : World) (v : Value) (V : Nat → Value) (n : Nat) (L : Nat → List UInt8) (b : Nat) : Prop where
 rows : RowsIn w v V n L
 fv : ∀ q, v.ownBlock = some q → b ≤ q
 fV : ∀ i q, i < n → (V i).ownBlock = some q → b ≤ q
 dV : ∀ i j q, i < n → j < n → (V i).ownBlock = some q → (V j).ownBlock = some q → i = j
theorem RowsOwn.nil (w : World) (V : Nat → Value) (L : Nat → List UInt8) (b : Nat) : RowsOwn w (.slice none 0 0) V 0 L b := ⟨RowsIn.nil _ _ _, fun q hq => (by cases hq), fun i q hi => absurd hi (Nat.not_lt_zero _), fun i j q hi => absurd hi (Nat.not_lt_zero _)⟩
set_option maxRecDepth 100000 in
theorem rallf_any (w : World) (p : Value) (m : List Blk) (S : Nat → Prop) (h : RefAt w p m S) :
 Calls Tryz.prog 62 #[p] w fun e w' => ∃ v V, e = .returned v ∧ RowsOwn w' v V m.length (fun i => (blk m i).b) w.heap.size ∧ Ext w w' := by
 obtain ⟨px, lb, ly, V, Y, rfl, hin, _⟩ := h.ex
 clear h
 have c00 := hin.c0
 have l0 := hin.rb.sl.run_len (P := Tryz.prog) IBB.und 3
 have hcnt := hin.ok.cnt
 go_enter Tryz.func62, Tryz.ntmps62
 go_wp2
 go_loopw [3, 4] (fun s3 s4 wr => ∃ k V', k ≤ m.length ∧ s4 = .int .i64 (k : Int) ∧ RowsOwn wr s3 V' k (fun i => (blk m i).b) w.heap.size ∧ Ext w wr) (fun _ i _ => m.length - (intOf i).toNat)
 case atStart => exact ⟨0, V, Nat.zero_le _, rfl, RowsOwn.nil _ _ _ _, Mod.refl _ _⟩
 case round =>
  obtain ⟨k, V', hk, rfl, hr, x⟩ := hrel
  have c0 := x.cell c00
  by_cases hlt : k < m.length
  · have hlt' : (k : Int) < (m.length : Int) := by omega
    have i0 := hin.rb.sl.run_idx (P := Tryz.prog) IBB.und IBB.size .i64 k hlt
    simp only [Nat.mul_one] at i0
    have c1 := x.cell (hin.cV hlt)
    have b1 := (hin.bs k hlt).ext x
    have htop := hin.ok.top k hlt
    have H := Lib.hid (And.intro hin (And.intro hr (And.intro x b1)))
    clear hin hr x b1
    go_wp2_with fail
    refine (copy_bytes _ _ (blk m k).b H.out.2.2.2.sl (by omega)).mono ?_
    rintro e w1 ⟨v1, rfl, o1, x1, f1⟩
    rw [List.length_map] at o1
    obtain ⟨la, lc, hv1, _⟩ := o1.sl.shape
    subst hv1
    have XW : Ext wr w1 := x1
    have hr1 := H.out.2.1.rows.ext XW
    have one1 : ∀ x ∈ [Value.slice la (blk m k).b.length lc], x.oneCell' = true := by intro x hx; simp at hx; subst hx; rfl
    have O := Lib.hid (And.intro o1 (And.intro XW f1))
    clear o1 x1 f1 XW
    go_wp2_with (at_builtin; refine wpList_app IBB rfl (.tmp 14) (.tmp 23) rfl (hr1.row.ext (Mod.alloc (Mod.refl _ _) _)) (built_sl (n := 1) (g := w1.heap.size) (e := 68) (cs := #[Value.slice la (blk m k).b.length lc]) (by simp only [heap_alloc_if, if_true]) rfl (by simp only [maxLen]; omega)) one1 (by simp [Act.eval]) (by simp [Act.eval]) (by omega) (by simp only [maxLen]; omega) ?_; intro lv' w2 ol2 gr2 fr2 nn2; have HH := Lib.hid (And.intro ol2 (And.intro gr2 fr2)); clear ol2 gr2 fr2 nn2)
    go_roundw
    case rel =>
     obtain ⟨ol2, gr2, fr2⟩ := HH.out
     have M2 : Mod (fun q => u3.ownBlock = some q) w1 w2 := Mod.grown (Mod.alloc (Mod.refl _ _) _) gr2 (fun q h => .inl h)
     have s1 := O.out.2.1.size
     have s2 := H.out.2.2.1.size
     refine ⟨k + 1, _, by omega, by go_num, ⟨hr1.push M2 ol2 O.out.1, fun q hq => ?_, fun i q hi hq => ?_, fun i j q hi hj hq hq2 => ?_⟩, (H.out.2.2.1.trans O.out.2.1).trans' M2 (fun q hq => .inr (H.out.2.1.fv q hq))⟩
     · rcases fr2 q hq with h | h
       · exact H.out.2.1.fv q h
       · simp only [World.size_alloc] at h
         omega
     · by_cases e : i = k
       · subst e
         rw [upd_same] at hq
         have := O.out.2.2 q hq
         omega
       · rw [upd_lt (by omega)] at hq
         exact H.out.2.1.fV i q (by omega) hq
     · by_cases e : i = k
       · by_cases e2 : j = k
         · omega
         · exfalso
           subst e
           rw [upd_same] at hq
           rw [upd_lt (by omega)] at hq2
           have h1 := O.out.2.2 q hq
           have h2 := (H.out.2.1.rows.bs j (by omega)).lt hq2
           omega
       · by_cases e2 : j = k
         · exfalso
           subst e2
           rw [upd_same] at hq2
           rw [upd_lt (by omega)] at hq
           have h1 := O.out.2.2 q hq2
           have h2 := (H.out.2.1.rows.bs i (by omega)).lt hq
           omega
         · rw [upd_lt (by omega)] at hq hq2
           exact H.out.2.1.dV i j q (by omega) (by omega) hq hq2
    case measure => simp [intOf]; omega
  · have hlt' : ¬ (k : Int) < (m.length : Int) := by omega
    obtain rfl : k = m.length := by omega
    go_wp2
    go_ret
    exact ⟨_, rfl, ⟨_, hr⟩, x⟩
structure RcRel (w : World) (m : List Blk) (po : Nat) (bs : Value) (VB : Nat → Value) (k : Nat) (wr : World) (yv : Value) (Y' : Nat → Value) : Prop where
 box : wr.heap[po]? = some (.cells #[bs, yv] 82 (0, 0))
 row : Own wr 33 1 yv k (flat 1 k (fun i _ => Y' i))
 ys : ∀ i, i < k → Own wr 3 1 (Y' i) (blk m i).y.length ((blk m i).y.map iv)
 fy : ∀ q, yv.ownBlock = some q → w.heap.size ≤ q
 fY : ∀ i q, i < k → (Y' i).ownBlock = some q → w.heap.size ≤ q
 dY : ∀ i j q, i < k → j < k → (Y' i).ownBlock = some q → (Y' j).ownBlock = some q → i = j
 rows : RowsOwn wr bs VB m.length (fun i => (blk m i).b) w.heap.size
 md : Ext w wr
 fg : w.heap.size ≤ po
theorem RcRel.push {w wr w3 w9 : World} {m : List Blk} {po k : Nat} {bs yv yv9 vy : Value} {VB Y' : Nat → Value} (h : RcRel w m po bs VB k wr yv Y') (x : Ext wr w3) (oy : Own w3 3 1 vy (blk m k).y.length ((blk m k).y.map iv)) (ny : ∀ q, vy.ownBlock = some q → wr.heap.size ≤ q)
 (M9 : Mod (fun q => yv.ownBlock = some q) w3 w9) (ol : Own w9 33 1 yv9 (k + 1) (flat 1 k (fun i _ => Y' i) ++ [vy])) (fr : ∀ q, yv9.ownBlock = some q → yv.ownBlock = some q ∨ w3.heap.size ≤ q) :
 RcRel w m po bs VB (k + 1) (w9.setCell ⟨po, 1, none⟩ yv9) yv9 (upd Y' k vy) := by
 have B3 := x.blk h.box
 have R3 := h.row.ext x
 have B9 := M9.blk B3 (fun e => R3.apart_obj B3 (by decide) e)
 have Ms : Mod (fun q => q = po) w9 (w9.setCell ⟨po, 1, none⟩ yv9) := Mod.setCell (F := fun q => q = po) (Mod.refl _ _) (.inl rfl) _
 have kp : ∀ {e : TypeId} {v : Value} {n : Nat} {xs : List Value}, e ≠ 33 → e ≠ 82 → Own w3 e 1 v n xs → Own (w9.setCell ⟨po, 1, none⟩ yv9) e 1 v n xs := fun {e v n xs} he he2 ho => by
  have h9 := ho.mod M9 (fun k hk hl => ho.apart R3 he hk hl)
  exact h9.mod Ms (fun k hk hl => by subst hl; exact h9.apart_obj B9 he2 hk)
 have hs := x.size
 have hd := h.md.size
 refine ⟨two_set1 B9 yv9, ?_, fun i hi => ?_, fun q hq => ?_, fun i q hi hq => ?_, fun i j q hi hj hq hq2 => ?_, ⟨⟨kp (by decide) (by decide) (h.rows.rows.row.ext x), fun i hi => kp (by decide) (by decide) ((h.rows.rows.bs i hi).ext x)⟩, h.rows.fv, h.rows.fV, h.rows.dV⟩, ((h.md.trans x).trans' M9 (fun q hq => .inr (h.fy q hq))).trans' Ms (fun q hq => .inr (by rw [hq]; exact h.fg)), h.fg⟩
 · rw [push_flat]
   exact ol.mod Ms (fun k hk hl => by subst hl; exact ol.apart_obj B9 (by decide) hk)
 · by_cases e : i = k
   · subst e; rw [upd_same]; exact kp (by decide) (by decide) oy
   · rw [upd_lt (by omega)]; exact kp (by decide) (by decide) ((h.ys i (by omega)).ext x)
 · exact (fr q hq).elim (h.fy q) (fun h1 => by omega)
 · by_cases e : i = k
   · subst e; rw [upd_same] at hq; have := ny q hq; omega
   · rw [upd_lt (by omega)] at hq; exact h.fY i q (by omega) hq
 · by_cases e : i = k
   · by_cases e2 : j = k
     · omega
     · exfalso
       subst e
       rw [upd_same] at hq
       rw [upd_lt (by omega)] at hq2
       have h1 := ny q hq
       have h2 := (h.ys j (by omega)).lt hq2
       omega
   · by_cases e2 : j = k
     · exfalso
       subst e2
       rw [upd_same] at hq2
       rw [upd_lt (by omega)] at hq
       have h1 := ny q hq2
       have h2 := (h.ys i (by omega)).lt hq
       omega
     · rw [upd_lt (by omega)] at hq hq2
       exact h.dY i j q (by omega) (by omega) hq hq2
set_option maxRecDepth 100000 in
set_option maxHeartbeats 1600000 in
theorem refcopy_any (w : World) (p : Value) (m : List Blk) (S : Nat → Prop) (h : RefAt w p m S) :
 Calls Tryz.prog 154 #[p] w fun e w' => ∃ po S', e = .returned (.pointer (some ⟨po, 0, none⟩)) ∧ RefAt w' (.pointer (some ⟨po, 0, none⟩)) m S' ∧ Ext w w' ∧ ∀ k, S' k → w.heap.size ≤ k := by
 have HR0 := Lib.hid h
 obtain ⟨px, lb, ly, V, Y, rfl, hin, _⟩ := h.ex
 clear h
 have c01 : w.cell? ⟨px, 1, none⟩ = some ly := by simp [World.cell?, hin.box]
 have l1 := hin.ry.sl.run_len (P := Tryz.prog) IYY.und 3
 have HIX := Lib.hid (hin.ry.sl.run_idx (P := Tryz.prog) IYY.und IYY.size .i64)
 have hcnt := hin.ok.cnt
 have HIN := Lib.hid hin
 have HC := Lib.hid c01
 clear hin c01
 go_enter Tryz.func154, Tryz.ntmps154
 go_wp2_with fail
 refine (rallf_any _ _ m S HR0.out).mono ?_
 rintro e w1 ⟨bs, VB, rfl, r1, x1⟩
 obtain ⟨lba, lbc, hbv, _⟩ := r1.rows.row.sl.shape
 obtain ⟨w2, hw2⟩ : ∃ W, W = w1.alloc (.cells #[bs, .slice none 0 0] 82) := ⟨_, rfl⟩
 obtain ⟨po, hpo⟩ : ∃ g, g = w1.heap.size := ⟨_, rfl⟩
 have x2 : Ext w1 w2 := by rw [hw2]; exact (Mod.refl _ _).alloc _
 have R0 : RcRel w m po bs VB 0 w2 (.slice none 0 0) Y := ⟨by rw [hw2, hpo]; exact heap_alloc_new _ _, Own.nil _ _ _, fun i hi => absurd hi (Nat.not_lt_zero _), fun q hq => (by cases hq), fun i q hi => absurd hi (Nat.not_lt_zero _), fun i j q hi => absurd hi (Nat.not_lt_zero _), ⟨r1.rows.ext x2, r1.fv, r1.fV, r1.dV⟩, x1.trans x2, by rw [hpo]; exact x1.size⟩
 have HW := Lib.hid (And.intro hw2 hpo)
 have H0 := Lib.hid R0
 have c01 := Ext.cell (x1.trans x2) HC.out
 clear hw2 hpo x2 R0 r1 x1
 subst hbv
 go_upto_region 2 with fail
 rw [← HW.out.1, ← HW.out.2]
 go_wp2_with fail
 clear c01
 go_loopw [4] (fun s4 wr => ∃ (k : Nat) (yv : Value) (Y' : Nat → Value), k ≤ m.length ∧ s4 = .int .i64 (k : Int) ∧ RcRel w m po (.slice lba m.length lbc) VB k wr yv Y') (fun i _ => m.length - (intOf i).toNat)
 case atStart => exact ⟨0, _, _, Nat.zero_le _, rfl, H0.out⟩
 case round =>
  obtain ⟨k, yv, Y', hk, rfl, hr⟩ := hrel
  have HR := Lib.hid hr
  have c01 := Ext.cell hr.md HC.out
  by_cases hlt : k < m.length
  · have hlt' : (k : Int) < (m.length : Int) := by omega
    have i0 := HIX.out k hlt
    simp only [Nat.mul_one] at i0
    have cY := hr.md.cell (HIN.out.cY hlt)
    have KM : Hid (∀ w', Mod (fun q => yv.ownBlock = some q) wr w' → (w'.cell? ⟨po, 1, none⟩ = some yv ∧ w'.cell? ⟨px, 1, none⟩ = some ly ∧ w'.cell? (at_ ly k) = some (Y k)) ∧ w'.frozen? ⟨po, 1, none⟩ = false) := Lib.hid fun w' M => by
     have h5 := M.blk HR.out.box (fun h => HR.out.row.apart_obj HR.out.box (by decide) h)
     have hX : Ext w w' := HR.out.md.trans' M (fun q hq => .inr (HR.out.fy q hq))
     exact ⟨⟨by simp [World.cell?, h5], Ext.cell hX HC.out, Ext.cell hX (HIN.out.cY hlt)⟩, by simp [World.frozen?, h5]⟩
    have HY : Hid ((∀ w', Ext wr w' → IntsAt w' (Y k) (blk m k).y) ∧ (blk m k).y.length ≤ 1000000) := Lib.hid ⟨fun w' x => ⟨((HIN.out.ys k hlt).ext (HR.out.md.trans x)).sl, HIN.out.ok.ok k hlt⟩, by have h1 := HIN.out.ok.len k hlt; have h2 := HIN.out.ok.top k hlt; omega⟩
    have HO := Lib.hid hr.row
    obtain ⟨⟨e1, -, -⟩, en1⟩ := KM.out wr (Mod.refl _ _)
    have hk16 : (k : Int) ≤ 16 := by omega
    clear hr
    go_upto_region 5 with fail
    refine wp_region_planL [17] [(0, 3), (1, 3), (2, 3), (3, 3), (4, 0), (5, 3), (6, 3), (7, 3), (8, 0), (9, 3), (10, 0), (11, 0), (12, 1), (13, 1), (14, 1), (15, 3), (16, 3), (17, 2)] (fun w' => w'.cell? ⟨po, 1, none⟩ = some yv ∧ w'.cell? ⟨px, 1, none⟩ = some ly ∧ w'.cell? (at_ ly k) = some (Y k)) (by kernel_rfl) (by kernel_rfl) (by kernel_rfl) (fun _ d _ _ _ h => by cases d <;> exact h) ((KM.out _ (Mod.drew (Mod.refl _ _))).1) ?_
    simp only [planLL, getO]
    iterate 4 (refine planL_pure (v := ?_) (by rfl) (fun wS => ?_) ?_; rotate_left; (focus (go_simp; (try with_reducible rfl); done)); (try simp only [Act.put, List.setIfInBounds_toArray, List.set_cons_zero, List.set_cons_succ]))
    (refine planL_take (v := ?_) (by rfl) (fun wS hS => ?_) ?_; rotate_left; (focus ((try dsimp only at hS); go_simp; (try with_reducible rfl); done)); (try simp only [Act.put, List.setIfInBounds_toArray, List.set_cons_zero, List.set_cons_succ]))
    iterate 3 (refine planL_pure (v := ?_) (by rfl) (fun wS => ?_) ?_; rotate_left; (focus (go_simp; (try with_reducible rfl); done)); (try simp only [Act.put, List.setIfInBounds_toArray, List.set_cons_zero, List.set_cons_succ]))
    (refine planL_take (v := ?_) (by rfl) (fun wS hS => ?_) ?_; rotate_left; (focus ((try dsimp only at hS); go_simp; (try with_reducible rfl); done)); (try simp only [Act.put, List.setIfInBounds_toArray, List.set_cons_zero, List.set_cons_succ]))
    (refine planL_pure (v := ?_) (by rfl) (fun wS => ?_) ?_; rotate_left; (focus (go_simp; (try with_reducible rfl); done)); (try simp only [Act.put, List.setIfInBounds_toArray, List.set_cons_zero, List.set_cons_succ]))
    iterate 2 (refine planL_take (v := ?_) (by rfl) (fun wS hS => ?_) ?_; rotate_left; (focus ((try dsimp only at hS); go_simp; (try with_reducible rfl); done)); (try simp only [Act.put, List.setIfInBounds_toArray, List.set_cons_zero, List.set_cons_succ]))
    refine planL_call (fun K hK => ?_)
    go_simp
    go_at_call 152; refine (copy_ints _ _ (blk m k).y (HY.out.1 _ (Mod.drew (Mod.refl _ _))) HY.out.2).mono ?_; rintro en w3 ⟨vy, rfl, oy, y3, f3⟩; have X3 : Ext wr w3 := Mod.trans (Mod.drew (Mod.refl _ _)) y3; rw [List.length_map] at oy; obtain ⟨la, lc, hv1, _⟩ := oy.sl.shape; subst hv1
    refine hK.out _ _ ((KM.out _ (X3.mod _)).1) ?_
    clear hK K
    (try simp only [Act.put, List.setIfInBounds_toArray, List.set_cons_zero, List.set_cons_succ])
    refine planL_call (fun K hK => ?_)
    go_simp
    skip
    refine hK.out _ _ ((KM.out _ (Ext.mod (X3.alloc _) _)).1) ?_
    clear hK K
    (try simp only [Act.put, List.setIfInBounds_toArray, List.set_cons_zero, List.set_cons_succ])
    refine planL_call (fun K hK => ?_)
    refine step_app IYY rfl (.tmp 22) (.tmp 31) rfl (HO.out.ext (X3.alloc _)) (built_sl (n := 1) (g := w3.heap.size) (e := 33) (cs := #[Value.slice la (blk m k).y.length lc]) (by rw [heap_alloc_if, if_pos rfl]) rfl (by simp only [maxLen]; omega)) (by intro x hx; rw [List.mem_singleton.1 hx]; rfl) (by simp [Act.eval]) (by simp [Act.eval]) (by omega) (by simp only [maxLen]; omega) ?_; intro qv9 w9 ol9 gr9 fr9 nn9; obtain ⟨la9, lc9, hlv9, _⟩ := ol9.sl.shape; subst hlv9; have M9 : Mod (fun q => yv.ownBlock = some q) w3 w9 := Mod.grown (Mod.alloc (Mod.refl _ _) _) gr9 (fun q h => .inl h); have MM : Mod (fun q => yv.ownBlock = some q) wr w9 := (X3.mod _).trans M9; obtain ⟨e2, en2⟩ := KM.out _ MM
    refine hK.out _ _ ((KM.out _ MM).1) ?_
    clear hK K
    (try simp only [Act.put, List.setIfInBounds_toArray, List.set_cons_zero, List.set_cons_succ])
    iterate 2 (refine planL_pure (v := ?_) (by rfl) (fun wS => ?_) ?_; rotate_left; (focus (go_simp; (try with_reducible rfl); done)); (try simp only [Act.put, List.setIfInBounds_toArray, List.set_cons_zero, List.set_cons_succ]))
    refine planL_late (fun K hK => ?_)
    go_simp
    refine hK.out _ _ ?_
    clear hK K
    (try simp only [Act.put, List.setIfInBounds_toArray, List.set_cons_zero, List.set_cons_succ])
    refine planL_nil ?_
    have F2 : ∀ q, (Value.slice la9 (k + 1) lc9).ownBlock = some q → yv.ownBlock = some q ∨ w3.heap.size ≤ q := fun q hq => (fr9 q hq).imp id (fun h => by (try simp only [World.size_alloc] at h); omega)
    have HX := Lib.hid (HR.out.push X3 oy (fun q hq => f3 q hq) M9 ol9 F2)
    clear e1 en1 e2 en2 gr9 fr9 ol9 nn9 M9 MM F2 oy y3 f3 X3 i0 cY c01
    go_wp2_with fail
    go_roundw
    case rel => exact ⟨k + 1, _, _, by omega, by go_num, HX.out⟩
    case measure => simp [intOf]; omega
  · have hlt' : ¬ (k : Int) < (m.length : Int) := by omega
    obtain rfl : k = m.length := by omega
    clear hr
    go_wp2_with fail
    go_ret
    have h1 := HR.out
    exact ⟨po, rfl, RefFp po (.slice lba m.length lbc) yv VB Y' m.length, ⟨po, _, yv, VB, Y', rfl, ⟨h1.box, h1.rows.rows.row, h1.row, h1.rows.rows.bs, h1.ys, h1.rows.dV, h1.dY, HIN.out.ok⟩, fun q => Iff.rfl⟩, h1.md, fun q hq => by
     rcases hq with rfl | hq | hq | ⟨i, hi, hq | hq⟩
     · exact h1.fg
     · exact h1.rows.fv q hq
     · exact h1.fy q hq
     · exact h1.rows.fV i q hi hq
     · exact h1.fY i q hi hq⟩
end Go.Proofs.YtbhocahmhmafmaaGreat
