/-
  The blocks in memory, and the contracts of the calls of package block that only read them. No condition. The contracts of block.New and Make. No condition. The contract of block.Write. No condition. The contract of (*block.Blocks).All: a list of the blocks' bytes, each a row of its own. No condition. The contract of (*block.Blocks).Copy: the same blocks, in memory of their own. No condition. The contract of renref24.SameBytes: where both are alike it answers true. No condition.
-/
import Derived.Test.YtbhocahmhmafmaaGreatPBaseA
import Derived.Test.YtbhocahmhmafmaaGreatPBlkLaw
import Derived.Deep.RegionHeld3
import Derived.RegionTactic
import Derived.BigRegion
import Derived.Deep.DeepCutAuto
import Derived.Deep.RegionLaw
import Derived.BigQuiet
namespace Go.Proofs.YtbhocahmhmafmaaGreat
open Go.Ren Go.RowKit
theorem I1 : EInfo Tryz.prog 131 138 2 48 (.agg #[.slice none 0 0, .slice none 0 0]) := ⟨Tryz.underlying131, by kernel_rfl, rfl, by decide⟩
structure BlocksIn (w : World) (pb : Nat) (lv : Value) (V Y : Nat → Value) (m : List Blk) : Prop where
 box : w.heap[pb]? = some (.cells #[lv] 133 (0, 0))
 row : Own w 138 2 lv m.length (flat 2 m.length (fun i j => if j = 0 then V i else Y i))
 bs : ∀ i, i < m.length → Own w 5 1 (V i) (blk m i).b.length ((blk m i).b.map bv)
 ys : ∀ i, i < m.length → Own w 3 1 (Y i) (blk m i).y.length ((blk m i).y.map iv)
 dV : ∀ i j k, i < m.length → j < m.length → (V i).ownBlock = some k → (V j).ownBlock = some k → i = j
 dY : ∀ i j k, i < m.length → j < m.length → (Y i).ownBlock = some k → (Y j).ownBlock = some k → i = j
 ok : BOk m
def BlocksFp (pb : Nat) (lv : Value) (V Y : Nat → Value) (n : Nat) (k : Nat) : Prop := k = pb ∨ lv.ownBlock = some k ∨ ∃ i, i < n ∧ ((V i).ownBlock = some k ∨ (Y i).ownBlock = some k)
structure BlocksAt (w : World) (p : Value) (m : List Blk) (S : Nat → Prop) : Prop where
 ex : ∃ pb lv V Y, p = .pointer (some ⟨pb, 0, none⟩) ∧ BlocksIn w pb lv V Y m ∧ ∀ k, S k ↔ BlocksFp pb lv V Y m.length k
theorem BlocksIn.lt {w : World} {pb : Nat} {lv : Value} {V Y : Nat → Value} {m : List Blk} (h : BlocksIn w pb lv V Y m) {k : Nat} (hk : BlocksFp pb lv V Y m.length k) : k < w.heap.size := by
 rcases hk with rfl | hk | ⟨i, hi, hk | hk⟩
 · exact lt_of_block h.box
 · exact h.row.lt hk
 · exact (h.bs i hi).lt hk
 · exact (h.ys i hi).lt hk
theorem BlocksIn.to {w w' : World} {pb : Nat} {lv : Value} {V Y : Nat → Value} {m : List Blk} (h : BlocksIn w pb lv V Y m) (e : ∀ k, BlocksFp pb lv V Y m.length k → w'.heap[k]? = w.heap[k]?) : BlocksIn w' pb lv V Y m :=
 ⟨(e pb (.inl rfl)).trans h.box, h.row.to fun k hk => e k (.inr (.inl hk)), fun i hi => (h.bs i hi).to fun k hk => e k (.inr (.inr ⟨i, hi, .inl hk⟩)),
  fun i hi => (h.ys i hi).to fun k hk => e k (.inr (.inr ⟨i, hi, .inr hk⟩)), h.dV, h.dY, h.ok⟩
theorem BlocksAt.lt {w : World} {p : Value} {m : List Blk} {S : Nat → Prop} (h : BlocksAt w p m S) {k : Nat} (hk : S k) : k < w.heap.size := by
 obtain ⟨pb, lv, V, Y, _, hin, hS⟩ := h.ex
 exact hin.lt ((hS k).1 hk)
theorem BlocksAt.mod {w w' : World} {p : Value} {m : List Blk} {S F : Nat → Prop} (h : BlocksAt w p m S) (md : Mod F w w') (hF : ∀ k, S k → ¬ F k) : BlocksAt w' p m S := by
 obtain ⟨pb, lv, V, Y, hp, hin, hS⟩ := h.ex
 exact ⟨pb, lv, V, Y, hp, hin.to fun k hk => md.block k (hin.lt hk) (hF k ((hS k).2 hk)), hS⟩
theorem BlocksAt.ext {w w' : World} {p : Value} {m : List Blk} {S : Nat → Prop} (h : BlocksAt w p m S) (md : Ext w w') : BlocksAt w' p m S := h.mod md fun _ _ h => h
theorem BlocksIn.cV {w : World} {pb : Nat} {lv : Value} {V Y : Nat → Value} {m : List Blk} (h : BlocksIn w pb lv V Y m) {i : Nat} (hi : i < m.length) : w.cell? (at_ lv (i * 2)) = some (V i) :=
 h.row.sl.cell (i * 2) _ (by have := flat_get (sz := 2) (j := 0) (fun i j => if j = 0 then V i else Y i) hi (by decide); simpa using this)
theorem BlocksIn.cY {w : World} {pb : Nat} {lv : Value} {V Y : Nat → Value} {m : List Blk} (h : BlocksIn w pb lv V Y m) {i : Nat} (hi : i < m.length) : w.cell? ⟨(at_ lv (i * 2)).block, (at_ lv (i * 2)).off + 1, none⟩ = some (Y i) :=
 h.row.sl.cell_off (by decide) (by have := flat_get (sz := 2) (j := 1) (fun i j => if j = 0 then V i else Y i) hi (by decide); simpa using this)
theorem size_any (w : World) (p : Value) (m : List Blk) (S : Nat → Prop) (h : BlocksAt w p m S) (k : Int) :
 Calls Tryz.prog 147 #[p, .int .i64 k] w fun e w' => e = .returned (.int .i64 (bsize m k)) ∧ w = w' := by
 obtain ⟨pb, lv, V, Y, rfl, hin, _⟩ := h.ex
 have c0 := cell_of_one hin.box
 have l0 := hin.row.sl.run_len (P := Tryz.prog) I1.und 3
 by_cases h1 : k < 0
 · have e1 : bsize m k = -1 := by unfold bsize; rw [if_neg (by omega)]
   rw [e1]; clear e1
   go_enter Tryz.func147, Tryz.ntmps147
   go_wp2
   go_ret
   exact ⟨rfl, rfl⟩
 · obtain ⟨i, rfl⟩ := Int.eq_ofNat_of_zero_le (Int.not_lt.1 h1)
   by_cases h2 : i < m.length
   · have e1 : bsize m i = ((blk m i).b.length : Int) := by unfold bsize; rw [if_pos (by omega)]; simp
     have h2' : ¬ (m.length : Int) ≤ (i : Int) := by omega
     have i0 := hin.row.sl.run_idx (P := Tryz.prog) I1.und I1.size .i64 i h2
     have c1 := hin.cV h2
     have l1 := (hin.bs i h2).sl.run_len (P := Tryz.prog) IB.und 3
     rw [e1]; clear e1 h
     go_enter Tryz.func147, Tryz.ntmps147
     go_wp2
     go_ret
     exact ⟨rfl, rfl⟩
   · have e1 : bsize m i = -1 := by unfold bsize; rw [if_neg (by omega)]
     have h2' : (m.length : Int) ≤ (i : Int) := by omega
     rw [e1]; clear e1
     go_enter Tryz.func147, Tryz.ntmps147
     go_wp2
     go_ret
     exact ⟨rfl, rfl⟩
theorem check_any (w : World) (p : Value) (m : List Blk) (S : Nat → Prop) (h : BlocksAt w p m S) (k a n : Int) :
 Calls Tryz.prog 93 #[p, .int .i64 k, .int .i64 a, .int .i64 n] w fun e w' => e = .returned (.int .i64 (bcheck m k a n)) ∧ w = w' := by
 have hsz := size_any w p m S h k
 have hok : BOk m := by obtain ⟨pb, lv, V, Y, _, hin, _⟩ := h.ex; exact hin.ok
 have hle := bsize_le hok k
 unfold bcheck
 generalize bsize m k = s at *
 have H := Lib.hid hsz; clear hsz h hok
 by_cases h0 : s < 0
 · rw [if_pos h0]
   go_enter Tryz.func93, Tryz.ntmps93
   go_wp2_with (go_at_call 147; refine H.out.mono ?_; rintro e w' ⟨rfl, rfl⟩)
   go_ret
   exact ⟨rfl, rfl⟩
 rw [if_neg h0]
 by_cases h1 : a < 0
 · rw [if_pos (by omega)]
   go_enter Tryz.func93, Tryz.ntmps93
   go_wp2_with (go_at_call 147; refine H.out.mono ?_; rintro e w' ⟨rfl, rfl⟩)
   go_ret
   exact ⟨rfl, rfl⟩
 by_cases h2 : n < 0
 · rw [if_pos (by omega)]
   go_enter Tryz.func93, Tryz.ntmps93
   go_wp2_with (go_at_call 147; refine H.out.mono ?_; rintro e w' ⟨rfl, rfl⟩)
   go_ret
   exact ⟨rfl, rfl⟩
 by_cases h3 : s < a
 · rw [if_pos (by omega)]
   go_enter Tryz.func93, Tryz.ntmps93
   go_wp2_with (go_at_call 147; refine H.out.mono ?_; rintro e w' ⟨rfl, rfl⟩)
   go_ret
   exact ⟨rfl, rfl⟩
 by_cases h4 : s - a < n
 · rw [if_pos (by omega)]
   go_enter Tryz.func93, Tryz.ntmps93
   go_wp2_with (go_at_call 147; refine H.out.mono ?_; rintro e w' ⟨rfl, rfl⟩)
   go_ret
   exact ⟨rfl, rfl⟩
 · rw [if_neg (by omega)]
   go_enter Tryz.func93, Tryz.ntmps93
   go_wp2_with (go_at_call 147; refine H.out.mono ?_; rintro e w' ⟨rfl, rfl⟩)
   go_ret
   exact ⟨rfl, rfl⟩
set_option maxRecDepth 100000 in
theorem read_any (w : World) (p : Value) (m : List Blk) (S : Nat → Prop) (h : BlocksAt w p m S) (k a n : Int) :
 Calls Tryz.prog 86 #[p, .int .i64 k, .int .i64 a, .int .i64 n] w fun e w' => ∃ v y, e = .returned (.tuple #[v, y, .int .i64 (bcheck m k a n)]) ∧ 
  Own w' 5 1 v (breadB m k a n).length ((breadB m k a n).map bv) ∧ Own w' 3 1 y (breadY m k a n).length ((breadY m k a n).map iv) ∧ Ext w w' ∧
  (∀ k, v.ownBlock = some k → w.heap.size ≤ k) ∧ (∀ k, y.ownBlock = some k → w.heap.size ≤ k) := by
 have hck := check_any w p m S h k a n
 obtain ⟨pb, lv, V, Y, rfl, hin, _⟩ := h.ex
 have c0 := cell_of_one hin.box
 have H := Lib.hid hck; clear hck h
 by_cases h0 : bcheck m k a n = 0
 case neg =>
  have hne : (bcheck m k a n != 0) = true := by rw [bne_iff_ne]; exact h0
  have e1 : breadB m k a n = [] := by unfold breadB; rw [if_neg h0]
  have e2 : breadY m k a n = [] := by unfold breadY; rw [if_neg h0]
  rw [e1, e2]; clear e1 e2
  generalize bcheck m k a n = ck at *
  clear h0
  go_enter Tryz.func86, Tryz.ntmps86
  go_wp2_with (go_at_call 93; refine H.out.mono ?_; rintro e w' ⟨rfl, rfl⟩)
  go_ret3
  exact ⟨_, _, rfl, Own.nil _ _ _, Own.nil _ _ _, Mod.refl _ _, fun k hk => by (cases hk), fun k hk => by (cases hk)⟩
 case pos =>
  obtain ⟨q1, q2, q3, q4, q5, q6⟩ := bcheck_0 h0
  have e1 : breadB m k a n = cut (blk m k.toNat).b a.toNat n.toNat := by unfold breadB; rw [if_pos h0]
  have e2 : breadY m k a n = cut (blk m k.toNat).y a.toNat n.toNat := by unfold breadY; rw [if_pos h0]
  rw [e1, e2]; clear e1 e2
  rw [h0] at H
  rw [h0]
  clear h0 q6
  obtain ⟨i, rfl⟩ := Int.eq_ofNat_of_zero_le q1
  obtain ⟨a, rfl⟩ := Int.eq_ofNat_of_zero_le q3
  obtain ⟨n, rfl⟩ := Int.eq_ofNat_of_zero_le q4
  simp only [Int.toNat_natCast] at q5 ⊢
  have q2' : i < m.length := by omega
  have i0 := hin.row.sl.run_idx (P := Tryz.prog) I1.und I1.size .i64 i q2'
  have c1 := hin.cV q2'
  have c2 := hin.cY q2'
  have b1 := hin.bs i q2'
  have b2 := hin.ys i q2'
  have k1 := b1.sl.cells_eq
  have k2 := b2.sl.cells_eq
  have t1 := b1.sl.run_st (P := Tryz.prog)
  have t2 := b2.sl.run_st (P := Tryz.prog)
  have htop := hin.ok.top i q2'
  have hlen := hin.ok.len i q2'
  have s1 := b1.sl.run_sub (P := Tryz.prog) IB.und IB.size .i64 .i64 a (a + n) (by omega) (by omega)
  have s2 := b2.sl.run_sub (P := Tryz.prog) II.und II.size .i64 .i64 a (a + n) (by omega) (by omega)
  have Hl := Lib.hid hlen; clear hlen
  have w1 : (a : Int) + (n : Int) ≤ 256 := by omega
  simp only [Int.natCast_add] at s1 s2
  go_enter Tryz.func86, Tryz.ntmps86
  go_wp2_with (go_at_call 93; refine H.out.mono ?_; rintro e w' ⟨rfl, rfl⟩)
  have hwr : IntKind.i64.wrap ((a : Int) + (n : Int)) = (a : Int) + (n : Int) := IntWalk.i64_in _ (by omega)
  obtain ⟨w0, hw0⟩ : ∃ w0, w0 = w.alloc (.cells #[V i, Y i] 138) := ⟨_, rfl⟩
  have x0 : Ext w w0 := by rw [hw0]; exact (Mod.refl _ _).alloc _
  have d1 : w0.cell? ⟨w.heap.size, 0, none⟩ = some (V i) := by rw [hw0]; simp
  have d2 : w0.cell? ⟨w.heap.size, 1, none⟩ = some (Y i) := by rw [hw0]; simp
  have hS : ∀ w', Ext w0 w' → (w'.cell? ⟨w.heap.size, 0, none⟩ = some (V i) ∧ w'.cell? ⟨w.heap.size, 1, none⟩ = some (Y i) ∧ Ext w0 w') := fun w' h => ⟨h.cell d1, h.cell d2, h⟩
  have hB : ∀ w', Ext w0 w' → BytesAt w' (sub_ (V i) a (a + n) 1) (cut (blk m i).b a n) := fun w' hw => cut_bytes (b1.sl.ext (by decide) (x0.trans hw)) (by omega)
  have hI : ∀ w', Ext w0 w' → IntsAt w' (sub_ (Y i) a (a + n) 1) (cut (blk m i).y a n) := fun w' hw => cut_ints ⟨b2.sl.ext (by decide) (x0.trans hw), hin.ok.ok i q2'⟩ (by have := Hl.out; omega)
  rw [← hw0]
  have HW := Lib.hid hw0
  have HX := Lib.hid x0
  clear hw0 x0 d1 d2
  go_region_held3 (fun w' => w'.cell? ⟨w.heap.size, 0, none⟩ = some (V i) ∧ w'.cell? ⟨w.heap.size, 1, none⟩ = some (Y i) ∧ Ext w0 w') (first | exact hS _ E2 | exact hS _ E1 | exact hS _ (Mod.refl _ _).drew)
   (first | (go_at_call 89; refine (clone_bytes _ _ (cut (blk m i).b a n) (hB _ (And.right (And.right (by assumption)))) (by rw [cut_len (by omega)]; omega)).mono ?_; rintro e w1 ⟨v1, rfl, o1, x1, f1⟩; have E1 := Mod.trans (And.right (And.right ‹_ ∧ _ ∧ Ext w0 _›)) x1) | (go_at_call 90; refine (clone_ints _ _ (cut (blk m i).y a n) (hI _ (And.right (And.right (by assumption)))) (by rw [cut_len (by have := Hl.out; omega)]; omega)).mono ?_; rintro e w2 ⟨v2, rfl, o2, x2, f2⟩; have E2 := Mod.trans (And.right (And.right ‹_ ∧ _ ∧ Ext w0 _›)) x2))
  go_wp2
  go_ret3
  have z1 : w.heap.size ≤ w0.heap.size := HX.out.size
  have z2 : w0.heap.size ≤ w1.heap.size := E1.size
  exact ⟨_, _, rfl, by simpa using o1.ext x2, by simpa using o2, HX.out.trans E2, fun k hk => Nat.le_trans z1 (f1 k hk), fun k hk => Nat.le_trans z1 (Nat.le_trans z2 (f2 k hk))⟩
end Go.Proofs.YtbhocahmhmafmaaGreat
namespace Go.Proofs.YtbhocahmhmafmaaGreat
open Go.Ren Go.RowKit
def fillTo (n k : Nat) : List Value := (List.range n).map fun j => if j < k then iv (-1) else iv 0
theorem fillTo_0 (n : Nat) : fillTo n 0 = List.replicate n (.int .i64 0) := by
 apply List.ext_getElem?; intro j
 by_cases h : j < n <;> simp [fillTo, h, iv]
theorem fillTo_n (n : Nat) : fillTo n n = (List.replicate n (-1)).map iv := by
 apply List.ext_getElem?; intro j
 by_cases h : j < n <;> simp [fillTo, h]
theorem fillTo_get {n k j : Nat} (h : k ≤ j) (hj : j < n) : (fillTo n k)[j]? = some (iv 0) := by simp [fillTo, hj, show ¬ j < k by omega]
theorem fillTo_set (n k : Nat) : (fillTo n k).set k (iv (-1)) = fillTo n (k + 1) := by
 apply List.ext_getElem?; intro j
 rw [List.getElem?_set]
 by_cases e : k = j
 · subst e
   by_cases h : k < n <;> simp [fillTo, h]
 · by_cases h : j < n
   · by_cases h2 : j < k
     · simp [fillTo, h, e, h2, show j < k + 1 by omega]
     · simp [fillTo, h, e, h2, show ¬ j < k + 1 by omega]
   · simp [fillTo, h, e]
theorem bok_nil : BOk [] := ⟨by simp, fun i h => by simp at h, fun i h => by simp at h, fun i h => by simp at h⟩
theorem new_any (w : World) : Calls Tryz.prog 32 #[] w fun e w' => ∃ pb S, e = .returned (.pointer (some ⟨pb, 0, none⟩)) ∧ BlocksAt w' (.pointer (some ⟨pb, 0, none⟩)) [] S ∧ Ext w w' ∧ ∀ k, S k → w.heap.size ≤ k := by
 go_enter Tryz.func32, Tryz.ntmps32
 go_wp2
 go_ret
 refine ⟨_, BlocksFp w.heap.size (.slice none 0 0) (fun _ => .slice none 0 0) (fun _ => .slice none 0 0) 0, rfl, ⟨_, _, _, _, rfl, ⟨heap_alloc_new _ _, Own.nil _ _ _, fun i h => by simp at h, fun i h => by simp at h, fun i j k h => by simp at h, fun i j k h => by simp at h, bok_nil⟩, fun k => Iff.rfl⟩, (Mod.refl _ _).alloc _, fun k hk => ?_⟩
 rcases hk with rfl | hk | ⟨i, hi, _⟩
 · exact Nat.le_refl _
 · cases hk
 · omega
def upd (f : Nat → Value) (n : Nat) (v : Value) : Nat → Value := fun i => if i = n then v else f i
theorem upd_same (f : Nat → Value) (n : Nat) (v : Value) : upd f n v n = v := by simp [upd]
theorem upd_lt {f : Nat → Value} {n i : Nat} {v : Value} (h : i < n) : upd f n v i = f i := by simp [upd, show i ≠ n by omega]
theorem blk_snoc_lt {m : List Blk} {B : Blk} {i : Nat} (h : i < m.length) : blk (m ++ [B]) i = blk m i := by simp [blk, List.getElem?_append_left h]
theorem blk_snoc {m : List Blk} {B : Blk} : blk (m ++ [B]) m.length = B := by simp [blk]
theorem blocks_push {w wr w2 : World} {pb : Nat} {lv lv' vb vy : Value} {V Y : Nat → Value} {m : List Blk} {B : Blk} (hin : BlocksIn w pb lv V Y m) (x : Ext w wr) (M2 : Mod (fun q => lv.ownBlock = some q) wr w2)
 (ol : Own w2 138 2 lv' (m.length + 1) (flat 2 m.length (fun i j => if j = 0 then V i else Y i) ++ [vb, vy])) (fr : ∀ k, lv'.ownBlock = some k → lv.ownBlock = some k ∨ wr.heap.size ≤ k)
 (ob : Own wr 5 1 vb B.b.length (B.b.map bv)) (oy : Own wr 3 1 vy B.y.length (B.y.map iv)) (nb : ∀ k, vb.ownBlock = some k → w.heap.size ≤ k) (ny : ∀ k, vy.ownBlock = some k → w.heap.size ≤ k)
 (h1 : B.y.length = B.b.length) (h2 : B.b.length ≤ 256) (h3 : ∀ x ∈ B.y, I64 x) (hc : m.length < 16) :
 BlocksIn (w2.setCell ⟨pb, 0, none⟩ lv') pb lv' (upd V m.length vb) (upd Y m.length vy) (m ++ [B]) ∧ Mod (BlocksFp pb lv V Y m.length) w (w2.setCell ⟨pb, 0, none⟩ lv') ∧
  ∀ k, BlocksFp pb lv' (upd V m.length vb) (upd Y m.length vy) (m ++ [B]).length k → BlocksFp pb lv V Y m.length k ∨ w.heap.size ≤ k := by
 have R0 := hin.row.ext x
 have B0 := x.blk hin.box
 have hpl : lv.ownBlock ≠ some pb := fun e => R0.apart_obj B0 (by decide) e
 have C0 := M2.blk B0 hpl
 have hpl' : lv'.ownBlock ≠ some pb := fun e => ol.apart_obj C0 (by decide) e
 have Ms : Mod (fun q => q = pb) w2 (w2.setCell ⟨pb, 0, none⟩ lv') := Mod.setCell (F := fun q => q = pb) (Mod.refl _ _) (.inl rfl) _
 have kb : ∀ {e : TypeId} {v : Value} {n : Nat} {xs : List Value}, e ≠ 138 → e ≠ 133 → Own wr e 1 v n xs → Own (w2.setCell ⟨pb, 0, none⟩ lv') e 1 v n xs := fun {e v n xs} he he2 ho =>
  have ho2 := ho.mod M2 (fun k hk hl => ho.apart R0 he hk hl)
  ho2.mod Ms (fun k hk hl => by subst hl; exact ho2.apart_obj C0 he2 hk)
 have hlen : (m ++ [B]).length = m.length + 1 := by simp
 refine ⟨⟨one_setCell C0, ?_, ?_, ?_, ?_, ?_, ?_⟩, ?_, ?_⟩
 · have e : flat 2 (m ++ [B]).length (fun i j => if j = 0 then upd V m.length vb i else upd Y m.length vy i) = flat 2 m.length (fun i j => if j = 0 then V i else Y i) ++ [vb, vy] := by
    rw [hlen, flat_succ _ _ _ (by decide)]
    congr 1
    · refine flat_congr fun i j hi hj => ?_
      rw [upd_lt hi, upd_lt hi]
    · simp [List.range_succ, upd_same]
   rw [e, hlen]
   exact ol.mod Ms (fun k hk hl => by subst hl; exact hpl' hk)
 · intro i hi
   rw [hlen] at hi
   by_cases e : i = m.length
   · subst e; rw [upd_same, blk_snoc]; exact kb (by decide) (by decide) ob
   · have hi' : i < m.length := by omega
     rw [upd_lt hi', blk_snoc_lt hi']; exact kb (by decide) (by decide) ((hin.bs i hi').ext x)
 · intro i hi
   rw [hlen] at hi
   by_cases e : i = m.length
   · subst e; rw [upd_same, blk_snoc]; exact kb (by decide) (by decide) oy
   · have hi' : i < m.length := by omega
     rw [upd_lt hi', blk_snoc_lt hi']; exact kb (by decide) (by decide) ((hin.ys i hi').ext x)
 · intro i j k hi hj h4 h5
   rw [hlen] at hi hj
   by_cases e : i = m.length <;> by_cases e' : j = m.length
   · omega
   · subst e; have hj' : j < m.length := by omega
     rw [upd_same] at h4; rw [upd_lt hj'] at h5
     have := nb k h4; have := (hin.bs j hj').lt h5; omega
   · subst e'; have hi' : i < m.length := by omega
     rw [upd_same] at h5; rw [upd_lt hi'] at h4
     have := nb k h5; have := (hin.bs i hi').lt h4; omega
   · have hi' : i < m.length := by omega
     have hj' : j < m.length := by omega
     rw [upd_lt hi'] at h4; rw [upd_lt hj'] at h5; exact hin.dV i j k hi' hj' h4 h5
 · intro i j k hi hj h4 h5
   rw [hlen] at hi hj
   by_cases e : i = m.length <;> by_cases e' : j = m.length
   · omega
   · subst e; have hj' : j < m.length := by omega
     rw [upd_same] at h4; rw [upd_lt hj'] at h5
     have := ny k h4; have := (hin.ys j hj').lt h5; omega
   · subst e'; have hi' : i < m.length := by omega
     rw [upd_same] at h5; rw [upd_lt hi'] at h4
     have := ny k h5; have := (hin.ys i hi').lt h4; omega
   · have hi' : i < m.length := by omega
     have hj' : j < m.length := by omega
     rw [upd_lt hi'] at h4; rw [upd_lt hj'] at h5; exact hin.dY i j k hi' hj' h4 h5
 · refine ⟨by rw [hlen]; omega, ?_, ?_, ?_⟩
   all_goals
    intro i hi
    rw [hlen] at hi
    by_cases e : i = m.length
    · subst e; rw [blk_snoc]; assumption
    · have hi' : i < m.length := by omega
      rw [blk_snoc_lt hi']; first | exact hin.ok.len i hi' | exact hin.ok.top i hi' | exact hin.ok.ok i hi'
 · exact ((x.mod (BlocksFp pb lv V Y m.length)).trans' M2 (fun i hi => .inl (.inr (.inl hi)))).trans' Ms (fun i hi => .inl (.inl hi))
 · intro k hk
   rcases hk with rfl | hk | ⟨i, hi, hk⟩
   · exact .inl (.inl rfl)
   · rcases fr k hk with h | h
     · exact .inl (.inr (.inl h))
     · exact .inr (Nat.le_trans x.size h)
   · rw [hlen] at hi
     by_cases e : i = m.length
     · subst e; rw [upd_same, upd_same] at hk; exact .inr (hk.elim (nb k) (ny k))
     · have hi' : i < m.length := by omega
       rw [upd_lt hi', upd_lt hi'] at hk; exact .inl (.inr (.inr ⟨i, hi', hk⟩))
theorem make_any (w : World) (p : Value) (m : List Blk) (S : Nat → Prop) (h : BlocksAt w p m S) (size : Int) :
 Calls Tryz.prog 85 #[p, .int .i64 size] w fun e w' => e = .returned (.tuple #[.int .i64 (bmakeN m size), .int .i64 (bmakeE m size)]) ∧
  ∃ S', BlocksAt w' p (bmake m size) S' ∧ Mod S w w' ∧ ∀ k, S' k → S k ∨ w.heap.size ≤ k := by
 by_cases h0 : bmakeE m size = 0
 case neg =>
  have en : bmakeN m size = 0 := by unfold bmakeN; rw [if_neg h0]
  have eb : bmake m size = m := by unfold bmake; rw [if_neg h0]
  rw [en, eb]
  have h00 := h0
  clear en eb h0
  obtain ⟨pb, lv, V, Y, rfl, hin, hS0⟩ := h.ex
  clear hS0
  have c0 := cell_of_one hin.box
  have l0 := hin.row.sl.run_len (P := Tryz.prog) I1.und 3
  clear hin
  unfold bmakeE
  by_cases h1 : size < 0
  · rw [if_pos (by omega)]
    go_enter Tryz.func85, Tryz.ntmps85
    go_wp2
    go_ret2
    exact ⟨rfl, S, h, Mod.refl _ _, fun k hk => .inl hk⟩
  by_cases h2 : 256 < size
  · rw [if_pos (by omega)]
    go_enter Tryz.func85, Tryz.ntmps85
    go_wp2
    go_ret2
    exact ⟨rfl, S, h, Mod.refl _ _, fun k hk => .inl hk⟩
  rw [if_neg (by omega)]
  by_cases h3 : 16 ≤ m.length
  · have h3' : (16 : Int) ≤ (m.length : Int) := by omega
    rw [if_pos h3]
    go_enter Tryz.func85, Tryz.ntmps85
    go_wp2
    go_ret2
    exact ⟨rfl, S, h, Mod.refl _ _, fun k hk => .inl hk⟩
  · exact absurd (by unfold bmakeE; rw [if_neg (by omega), if_neg h3]) h00
 case pos =>
  obtain ⟨pb, lv, V, Y, rfl, hin, hS⟩ := h.ex
  have c0 := cell_of_one hin.box
  have f0 := free_of_one hin.box
  have l0 := hin.row.sl.run_len (P := Tryz.prog) I1.und 3
  have hr : 0 ≤ size ∧ size ≤ 256 ∧ m.length < 16 := by unfold bmakeE at h0; split at h0; omega; split at h0; omega; omega
  obtain ⟨r1, r2, r3⟩ := hr
  obtain ⟨n, rfl⟩ := Int.eq_ofNat_of_zero_le r1
  have m1 := run_make_row' (P := Tryz.prog) 68 5 (.int .u8 0) 1 IB.und IB.info rfl .i64 .i64 n (by omega) (by omega)
  have m2 := run_make_row' (P := Tryz.prog) 33 3 (.int .i64 0) 8 II.und II.info rfl .i64 .i64 n (by omega) (by omega)
  have r4 : ¬ (16 : Int) ≤ (m.length : Int) := by omega
  clear h0
  go_enter Tryz.func85, Tryz.ntmps85
  go_upto_region 5 with fail
  go_cut [6, 23, 25] (fun s6 s23 s25 wx => ∃ g gb gy : Nat, s6 = .pointer (some ⟨g, 0, none⟩) ∧ s23 = .slice (some ⟨gb, 0, none⟩) n n ∧ s25 = .slice (some ⟨gy, 0, none⟩) n n ∧ Ext w wx ∧ w.heap.size ≤ g ∧ w.heap.size ≤ gb ∧ w.heap.size ≤ gy ∧
   wx.heap[g]? = some (.cells #[.slice (some ⟨gb, 0, none⟩) n n, .slice (some ⟨gy, 0, none⟩) n n] 138 (0, 0)) ∧
   wx.heap[gb]? = some (.cells (madeCells #[.int .u8 0] n) 5 (0, 0)) ∧ wx.heap[gy]? = some (.cells (madeCells #[.int .i64 0] n) 3 (0, 0)))
  case first =>
   go_region
   all_goals (go_wp2_with fail; go_meet; refine ⟨_, _, _, rfl, rfl, rfl, by repeat (first | exact Mod.refl _ _ | apply Mod.drew | apply Mod.alloc), by (try simp only [World.size_alloc, World.size_drew]); omega, by (try simp only [World.size_alloc, World.size_drew]); omega, by (try simp only [World.size_alloc, World.size_drew]); omega, ?_, ?_, ?_⟩; all_goals (simp only [heap_alloc_if, heap_drew, World.size_alloc]; repeat (first | rfl | rw [if_pos (by omega)] | rw [if_neg (by omega)])))
  case rest =>
   obtain ⟨g, gb, gy, rfl, rfl, rfl, x1, z1, z2, z3, b1, b2, b3⟩ := hcut
   have t0 : wc.cell? ⟨g, 0, none⟩ = some (.slice (some ⟨gb, 0, none⟩) n n) := by simp [World.cell?, b1]
   have t1 : wc.cell? ⟨g, 1, none⟩ = some (.slice (some ⟨gy, 0, none⟩) n n) := by simp [World.cell?, b1]
   have oy : Own wc 3 1 (.slice (some ⟨gy, 0, none⟩) n n) n (fillTo n 0) := by rw [fillTo_0]; exact Own.made_at b3 (by simp only [maxLen]; omega)
   have HB := Lib.hid (And.intro b1 b2)
   clear b1 b2 b3 m1 m2 c0 l0
   go_wp2
   go_loopw [30] (fun s30 wr => ∃ k : Nat, k ≤ n ∧ s30 = .int .i64 k ∧ Mod (fun b => b = gy) wc wr ∧ Own wr 3 1 (.slice (some ⟨gy, 0, none⟩) n n) n (fillTo n k)) (fun i _ => n - (intOf i).toNat)
   case atStart => exact ⟨0, Nat.zero_le _, rfl, Mod.refl _ _, oy⟩
   case round =>
    obtain ⟨k, hk, rfl, xr, or⟩ := hrel
    have hgy : ¬ g = gy := fun e => by
     obtain ⟨cur, hh⟩ := oy.ty rfl
     have := HB.out.1
     rw [e, hh] at this
     simp at this
    have hgb : ¬ gb = gy := fun e => by
     obtain ⟨cur, hh⟩ := oy.ty rfl
     have := HB.out.2
     rw [e, hh] at this
     simp at this
    have t1r : wr.cell? ⟨g, 1, none⟩ = some (.slice (some ⟨gy, 0, none⟩) n n) := xr.cell t1 hgy
    by_cases hlt : k < n
    · have hlt' : (k : Int) < (n : Int) := by omega
      have fr : wr.frozen? ⟨gy, k, none⟩ = false := World.ownsRow.frozenAt or k
      have cr : wr.cell? ⟨gy, k, none⟩ = some (iv 0) := by rw [World.ownsRow.cellAt or k (by omega), fillTo_get (Nat.le_refl _) hlt]
      have os := (World.ownsRow.stored or k (iv (-1))).1
      rw [fillTo_set] at os
      have xs : Mod (fun b => b = gy) wc (wr.setCell ⟨gy, k, none⟩ (iv (-1))) := xr.setCell (.inl rfl) _
      have OS := Lib.hid (And.intro os xs)
      clear os xs oy t1 t0
      go_wp2
      go_roundw
      case rel => exact ⟨k + 1, by omega, by go_num, OS.out.2, OS.out.1⟩
      case measure => simp [intOf]; omega
    · have hlt' : ¬ (k : Int) < (n : Int) := by omega
      obtain rfl : k = n := by omega
      have x2 : Ext w wr := x1.trans' xr (by rintro i rfl; exact .inr z3)
      have B0 := x2.blk hin.box
      have B1 := cell_of_one B0
      have B2 := free_of_one B0
      have G0 : wr.heap[g]? = some (.cells #[.slice (some ⟨gb, 0, none⟩) k k, .slice (some ⟨gy, 0, none⟩) k k] 138 (0, 0)) := xr.blk HB.out.1 hgy
      have G1 : wr.cell? ⟨g, 0, none⟩ = some (.slice (some ⟨gb, 0, none⟩) k k) := by simp [World.cell?, G0]
      have R0 := hin.row.ext x2
      have l0 := hin.row.sl.run_len (P := Tryz.prog) I1.und 3
      have X2 := Lib.hid (And.intro x2 (And.intro B0 G0))
      clear x2 B0 G0 t1 t0 oy
      go_wp2
      have one2 : ∀ x ∈ [Value.slice (some ⟨gb, 0, none⟩) k k, Value.slice (some ⟨gy, 0, none⟩) k k], x.oneCell' = true := by intro x hx; simp at hx; rcases hx with rfl | rfl <;> rfl
      have P1 : pb < wr.heap.size := lt_of_block X2.out.2.1
      have hpl : lv.ownBlock ≠ some pb := fun e => R0.apart_obj X2.out.2.1 (by decide) e
      go_region_law (refine step_app I1 rfl (.tmp 42) (.tmp 44) rfl (R0.ext ?_) (built_sl (n := 1) (g := wr.heap.size) (e := 138) (cs := #[.slice (some ⟨gb, 0, none⟩) k k, .slice (some ⟨gy, 0, none⟩) k k]) ?_ rfl (by simp only [maxLen]; omega)) one2 ?_ ?_ (by omega) (by simp only [maxLen]; omega) ?_; (repeat (first | exact Mod.refl _ _ | apply Mod.drew | apply Mod.alloc)); (simp only [heap_alloc_if, heap_drew, if_true]); (simp [Act.eval]); (simp [Act.eval]); intro lv' w2 ol2 gr2 fr2 nn2; obtain ⟨la, lc, hlv, _⟩ := ol2.sl.shape; subst hlv; have M2 : Mod (fun q => lv.ownBlock = some q) wr w2 := Mod.grown (by repeat (first | exact Mod.refl _ _ | apply Mod.drew | apply Mod.alloc)) gr2 (fun q h => .inl h); have c2 := cell_of_one (M2.blk X2.out.2.1 hpl); have f2 := free_of_one (M2.blk X2.out.2.1 hpl))
      all_goals (have F2 : ∀ q, (Value.slice la (m.length + 1) lc).ownBlock = some q → lv.ownBlock = some q ∨ wr.heap.size ≤ q := fun q hq => (fr2 q hq).imp id (fun h => by (try simp only [World.size_alloc, World.size_drew] at h); omega))
      all_goals (have P := blocks_push (B := newBlk k) hin X2.out.1 M2 ol2 F2 (by have := (Own.made_at (z := .int .u8 0) (xr.blk HB.out.2 hgb) (by simp only [maxLen]; omega)); simpa [newBlk, bv] using this) (by have h := or; rw [fillTo_n] at h; simpa [newBlk] using h) (by intro q hq; simp [Value.ownBlock] at hq; omega) (by intro q hq; simp [Value.ownBlock] at hq; omega) (by simp [newBlk]) (by simp [newBlk]; omega) (by intro x hx; simp [newBlk] at hx; simp [I64, hx.2]) r3)
      all_goals (have HP := Lib.hid P; clear P R0 gr2 fr2 F2 M2 ol2)
      all_goals go_wp2
      all_goals go_ret2
      all_goals
       have em : bmakeE m (k : Int) = 0 := by unfold bmakeE; rw [if_neg (by omega), if_neg (by omega)]
       have en : bmakeN m (k : Int) = (m.length : Int) := by unfold bmakeN; rw [if_pos em]
       have eb : bmake m (k : Int) = m ++ [newBlk k] := by unfold bmake; rw [if_pos em, Int.toNat_natCast]
       obtain ⟨P1, P2, P3⟩ := HP.out
       exact ⟨by rw [em, en]; rfl, _, ⟨pb, _, _, _, rfl, by rw [eb]; exact P1, fun q => by rw [eb]⟩, P2.weak (fun q hq => .inl ((hS q).2 hq)), fun q hq => (P3 q hq).imp (hS q).2 id⟩
end Go.Proofs.YtbhocahmhmafmaaGreat
namespace Go.Proofs.YtbhocahmhmafmaaGreat
open Go.Ren Go.RowKit
theorem blk_set_same {m : List Blk} {i : Nat} {B : Blk} (h : i < m.length) : blk (m.set i B) i = B := by simp [blk, h]
theorem blk_set_other {m : List Blk} {i j : Nat} {B : Blk} (h : j ≠ i) : blk (m.set i B) j = blk m j := by simp [blk, Ne.symm h]
theorem blocks_write {w w2 : World} {pb : Nat} {lv : Value} {V Y : Nat → Value} {m : List Blk} (hin : BlocksIn w pb lv V Y m) {i : Nat} (hi : i < m.length) (M : Mod (fun q => (V i).ownBlock = some q ∨ (Y i).ownBlock = some q) w w2)
 {B : Blk} (ob : Own w2 5 1 (V i) B.b.length (B.b.map bv)) (oy : Own w2 3 1 (Y i) B.y.length (B.y.map iv)) (h1 : B.y.length = B.b.length) (h2 : B.b.length ≤ 256) (h3 : ∀ x ∈ B.y, I64 x) :
 BlocksIn w2 pb lv V Y (m.set i B) := by
 have hl : (m.set i B).length = m.length := List.length_set
 have bi := hin.bs i hi
 have yi := hin.ys i hi
 refine ⟨M.blk hin.box (fun h => h.elim (fun h => bi.apart_obj hin.box (by decide) h) (fun h => yi.apart_obj hin.box (by decide) h)), ?_, ?_, ?_, ?_, ?_, ?_⟩
 · rw [hl]
   exact hin.row.mod M (fun k hk h => h.elim (fun h => bi.apart hin.row (by decide) h hk) (fun h => yi.apart hin.row (by decide) h hk))
 · intro j hj
   rw [hl] at hj
   by_cases e : j = i
   · subst e; rw [blk_set_same hi]; exact ob
   · rw [blk_set_other e]
     exact (hin.bs j hj).mod M (fun k hk h => h.elim (fun h => e (hin.dV j i k hj hi hk h)) (fun h => yi.apart (hin.bs j hj) (by decide) h hk))
 · intro j hj
   rw [hl] at hj
   by_cases e : j = i
   · subst e; rw [blk_set_same hi]; exact oy
   · rw [blk_set_other e]
     exact (hin.ys j hj).mod M (fun k hk h => h.elim (fun h => bi.apart (hin.ys j hj) (by decide) h hk) (fun h => e (hin.dY j i k hj hi hk h)))
 · intro a b k ha hb h4 h5; rw [hl] at ha hb; exact hin.dV a b k ha hb h4 h5
 · intro a b k ha hb h4 h5; rw [hl] at ha hb; exact hin.dY a b k ha hb h4 h5
 · refine ⟨by rw [hl]; exact hin.ok.cnt, ?_, ?_, ?_⟩
   all_goals
    intro j hj
    rw [hl] at hj
    by_cases e : j = i
    · subst e; rw [blk_set_same hi]; assumption
    · rw [blk_set_other e]; first | exact hin.ok.len j hj | exact hin.ok.top j hj | exact hin.ok.ok j hj
set_option maxRecDepth 100000 in
theorem write_any (w : World) (p : Value) (m : List Blk) (S : Nat → Prop) (h : BlocksAt w p m S) (k a : Int) (u : Value) (x : List UInt8) (hu : BytesAt w u x) (hx : x.length ≤ 1000000) (by_ : Int) (hby : I64 by_) :
 Calls Tryz.prog 42 #[p, .int .i64 k, .int .i64 a, u, .int .i64 by_] w fun e w' => e = .returned (.int .i64 (bcheck m k a x.length)) ∧ BlocksAt w' p (bwrite m k a x by_) S ∧ Mod S w w' := by
 have hck := check_any w p m S h k a x.length
 have lu := Sl.run_len (P := Tryz.prog) hu IB.und 3
 by_cases h0 : bcheck m k a x.length = 0
 case neg =>
  have hne : (bcheck m k a x.length != 0) = true := by rw [bne_iff_ne]; exact h0
  have eb : bwrite m k a x by_ = m := by unfold bwrite; rw [if_neg h0]
  rw [eb]; clear eb
  have H := Lib.hid hck; have HB := Lib.hid h; clear hck h h0 hu
  generalize bcheck m k a x.length = ck at *
  go_enter Tryz.func42, Tryz.ntmps42
  go_wp2_with (go_at_call 93; refine H.out.mono ?_; rintro e w' ⟨rfl, rfl⟩)
  go_ret
  exact ⟨rfl, HB.out, Mod.refl _ _⟩
 case pos =>
  obtain ⟨pb, lv, V, Y, rfl, hin, hS⟩ := h.ex
  obtain ⟨q1, q2, q3, q4, q5, q6⟩ := bcheck_0 h0
  have eb : bwrite m k a x by_ = m.set k.toNat (wBlk (blk m k.toNat) a.toNat x by_) := by unfold bwrite; rw [if_pos h0]
  rw [eb, h0]; clear eb
  rw [h0] at hck
  obtain ⟨i, rfl⟩ := Int.eq_ofNat_of_zero_le q1
  obtain ⟨a, rfl⟩ := Int.eq_ofNat_of_zero_le q3
  simp only [Int.toNat_natCast] at q5 ⊢
  have q2' : i < m.length := by omega
  have HS := Lib.hid hS
  have H := Lib.hid hck
  clear h0 q6 q1 q3 q4 hck hS h
  have c0 := cell_of_one hin.box
  have i0 := hin.row.sl.run_idx (P := Tryz.prog) I1.und I1.size .i64 i q2'
  have c1 := hin.cV q2'
  have b1 := hin.bs i q2'
  have b2 := hin.ys i q2'
  have htop := hin.ok.top i q2'
  have su : Sl w u 1 x.length (x.map bv) := hu
  have hlo : a + x.length ≤ (blk m i).b.length := by omega
  have s1 := b1.sl.run_sub_lo (P := Tryz.prog) IB.und IB.size .i64 a (by omega)
  go_enter Tryz.func42, Tryz.ntmps42
  go_wp2_with (first | (go_at_call 93; refine H.out.mono ?_; rintro e w' ⟨rfl, rfl⟩) | ((with_reducible show wpList _ _ _ _ _ _); refine wpList_copy rfl (.tmp 31) (.tmp 32) rfl IB.und IB.size b1 hlo su (one_bv x) rfl rfl ?_; intro w1 ob1 m1))
  go_loopw [36] (fun s36 wr => ∃ k : Nat, k ≤ x.length ∧ s36 = .int .i64 k ∧ Mod (fun q => (Y i).ownBlock = some q) w1 wr ∧ Own wr 3 1 (Y i) (blk m i).y.length ((splice (blk m i).y a (List.replicate k by_)).map iv)) (fun i _ => x.length - (intOf i).toNat)
  case atStart =>
   have hy := hin.ys i q2'
   exact ⟨0, Nat.zero_le _, rfl, Mod.refl _ _, by rw [List.replicate_zero, splice_nil]; exact hy.mod m1 (fun k hk h => b1.apart hy (by decide) h hk)⟩
  case round =>
   obtain ⟨k, hk, rfl, xr, or⟩ := hrel
   have MW : Mod (fun q => (V i).ownBlock = some q ∨ (Y i).ownBlock = some q) w wr := (m1.weak (fun _ h => .inl (.inl h))).trans' xr (fun _ h => .inl (.inr h))
   have hlen := hin.ok.len i q2'
   have HL := Lib.hid hlen; clear hlen
   have bx := MW.blk hin.box (fun h => h.elim (fun h => b1.apart_obj hin.box (by decide) h) (fun h => (hin.ys i q2').apart_obj hin.box (by decide) h))
   have c0r := cell_of_one bx
   have rr := hin.row.mod MW (fun k hk h => h.elim (fun h => b1.apart hin.row (by decide) h hk) (fun h => (hin.ys i q2').apart hin.row (by decide) h hk))
   have c2r : wr.cell? ⟨(at_ lv (i * 2)).block, (at_ lv (i * 2)).off + 1, none⟩ = some (Y i) := rr.sl.cell_off (by decide) (by have := flat_get (sz := 2) (j := 1) (fun i j => if j = 0 then V i else Y i) q2' (by decide); simpa using this)
   by_cases hlt : k < x.length
   · have hlt' : (k : Int) < (x.length : Int) := by omega
     have hak : a + k < (blk m i).y.length := by have := HL.out; omega
     have iy := or.sl.run_idx (P := Tryz.prog) II.und II.size .i64 (a + k) hak
     simp only [Nat.mul_one, Int.natCast_add] at iy
     have fr := or.frozen (a + k) (by omega)
     have cr := or.sl.cell (a + k) _ (List.getElem?_eq_getElem (by rw [List.length_map, length_splice _ _ _ (by simp; omega)]; exact hak))
     have os := or.set (by omega) (a + k) (iv by_)
     have es : ((splice (blk m i).y a (List.replicate k by_)).map iv).set (a + k) (iv by_) = (splice (blk m i).y a (List.replicate (k + 1) by_)).map iv := by rw [← List.map_set, splice_set _ _ _ _ hak]
     rw [es] at os
     have xs : Mod (fun q => (Y i).ownBlock = some q) w1 (wr.setCell (at_ (Y i) (a + k)) (iv by_)) := xr.setCell (.inl (or.at_block (by omega) _)) _
     have OS := Lib.hid (And.intro os xs)
     have hsum : (a : Int) + (k : Int) ≤ 256 := by omega
     clear os xs es bx rr m1 xr MW or
     go_wp2
     go_roundw
     case rel => exact ⟨k + 1, by omega, by go_num, OS.out.2, OS.out.1⟩
     case measure => simp [intOf]; omega
   · have hlt' : ¬ (k : Int) < (x.length : Int) := by omega
     obtain rfl : k = x.length := by omega
     have ob : Own wr 5 1 (V i) (wBlk (blk m i) a x by_).b.length ((wBlk (blk m i) a x by_).b.map bv) := by
      have h1 := ob1.mod xr (fun k hk h => (hin.ys i q2').apart b1 (by decide) h hk)
      simp only [wBlk, splice_map]
      rw [length_splice _ _ _ (by omega)]
      exact h1
     have oy : Own wr 3 1 (Y i) (wBlk (blk m i) a x by_).y.length ((wBlk (blk m i) a x by_).y.map iv) := by
      simp only [wBlk]
      rw [length_splice _ _ _ (by simp; have := HL.out; omega)]
      exact or
     have P := blocks_write hin q2' MW ob oy (by simp only [wBlk]; rw [length_splice _ _ _ (by simp; have := HL.out; omega), length_splice _ _ _ (by omega)]; exact HL.out) (by simp only [wBlk]; rw [length_splice _ _ _ (by omega)]; exact htop)
      (by
       intro z hz
       simp only [wBlk, splice, List.mem_append, List.mem_replicate] at hz
       rcases hz with hz | ⟨_, rfl⟩ | hz
       · exact hin.ok.ok i q2' z (List.mem_of_mem_take hz)
       · exact hby
       · exact hin.ok.ok i q2' z (List.mem_of_mem_drop hz))
     have HP := Lib.hid (And.intro P MW)
     clear P MW ob oy xr or m1 ob1 bx rr
     go_wp2
     go_ret
     refine ⟨rfl, ⟨pb, lv, V, Y, rfl, HP.out.1, fun q => ?_⟩, HP.out.2.weak (fun q hq => .inl ((HS.out q).2 (.inr (.inr ⟨i, q2', hq⟩))))⟩
     rw [List.length_set]; exact HS.out q
end Go.Proofs.YtbhocahmhmafmaaGreat
namespace Go.Proofs.YtbhocahmhmafmaaGreat
open Go.Ren Go.RowKit
set_option linter.unusedVariables false
theorem IBB : EInfo Tryz.prog 51 68 1 24 (.slice none 0 0) := ⟨Tryz.underlying51, by kernel_rfl, rfl, by decide⟩
structure RowsIn (w : World) (v : Value) (V : Nat → Value) (n : Nat) (L : Nat → List UInt8) : Prop where
 row : Own w 68 1 v n (flat 1 n (fun i _ => V i))
 bs : ∀ i, i < n → Own w 5 1 (V i) (L i).length ((L i).map bv)
theorem RowsIn.ext {w w' : World} {v : Value} {V : Nat → Value} {n : Nat} {L : Nat → List UInt8} (h : RowsIn w v V n L) (x : Ext w w') : RowsIn w' v V n L := ⟨h.row.ext x, fun i hi => (h.bs i hi).ext x⟩
theorem RowsIn.cell {w : World} {v : Value} {V : Nat → Value} {n : Nat} {L : Nat → List UInt8} (h : RowsIn w v V n L) {i : Nat} (hi : i < n) : w.cell? (at_ v i) = some (V i) :=
 h.row.sl.cell i _ (by have := flat_get (sz := 1) (j := 0) (fun i _ => V i) hi (by decide); simpa using this)
theorem RowsIn.nil (w : World) (V : Nat → Value) (L : Nat → List UInt8) : RowsIn w (.slice none 0 0) V 0 L := ⟨Own.nil _ _ _, fun i hi => by omega⟩
theorem RowsIn.push {w w2 : World} {v v' u : Value} {V : Nat → Value} {n : Nat} {L : Nat → List UInt8} (h : RowsIn w v V n L) (M : Mod (fun q => v.ownBlock = some q) w w2) (o : Own w2 68 1 v' (n + 1) (flat 1 n (fun i _ => V i) ++ [u]))
 (ob : Own w 5 1 u (L n).length ((L n).map bv)) : RowsIn w2 v' (upd V n u) (n + 1) L := by
 refine ⟨?_, fun i hi => ?_⟩
 · have e : flat 1 (n + 1) (fun i _ => upd V n u i) = flat 1 n (fun i _ => V i) ++ [u] := by
    rw [flat_succ _ _ _ (by decide)]
    have e1 : flat 1 n (fun i _ => upd V n u i) = flat 1 n (fun i _ => V i) := flat_congr fun i j hi _ => upd_lt hi
    rw [e1]; simp [upd_same]
   rw [e]; exact o
 · by_cases e : i = n
   · subst e; rw [upd_same]; exact ob.mod M (fun k hk hl => ob.apart h.row (by decide) hk hl)
   · have hi' : i < n := by omega
     rw [upd_lt hi']; exact (h.bs i hi').mod M (fun k hk hl => (h.bs i hi').apart h.row (by decide) hk hl)
def RowsFp (v : Value) (V : Nat → Value) (n : Nat) (q : Nat) : Prop := v.ownBlock = some q ∨ ∃ i, i < n ∧ (V i).ownBlock = some q
set_option maxRecDepth 100000 in
theorem allf_any (w : World) (p : Value) (m : List Blk) (S : Nat → Prop) (h : BlocksAt w p m S) :
 Calls Tryz.prog 67 #[p] w fun e w' => ∃ v V, e = .returned v ∧ RowsIn w' v V m.length (fun i => (blk m i).b) ∧ Ext w w' ∧ ∀ q, RowsFp v V m.length q → w.heap.size ≤ q := by
 obtain ⟨pb, lv, V, Y, rfl, hin, _⟩ := h.ex
 clear h
 have c0 := cell_of_one hin.box
 have l0 := hin.row.sl.run_len (P := Tryz.prog) I1.und 3
 have hcnt := hin.ok.cnt
 go_enter Tryz.func67, Tryz.ntmps67
 go_wp2
 go_loopw [3, 11] (fun s3 s11 wr => ∃ k V', k ≤ m.length ∧ s11 = .int .i64 (k : Int) ∧ RowsIn wr s3 V' k (fun i => (blk m i).b) ∧ Ext w wr ∧ (∀ q, s3.ownBlock = some q → w.heap.size ≤ q) ∧ ∀ i q, i < k → (V' i).ownBlock = some q → w.heap.size ≤ q) (fun _ i _ => m.length - (intOf i).toNat)
 case atStart => exact ⟨0, V, Nat.zero_le _, rfl, RowsIn.nil _ _ _, Mod.refl _ _, fun q hq => (by cases hq), fun i q hi => absurd hi (Nat.not_lt_zero _)⟩
 case round =>
  obtain ⟨k, V', hk, rfl, hr, x, hf, hg⟩ := hrel
  by_cases hlt : k < m.length
  · have hlt' : (k : Int) < (m.length : Int) := by omega
    have i0 := hin.row.sl.run_idx (P := Tryz.prog) I1.und I1.size .i64 k hlt
    have c1 := x.cell (hin.cV hlt)
    have c2 := x.cell (hin.cY hlt)
    have b1 := (hin.bs k hlt).ext x
    have b2 := (hin.ys k hlt).ext x
    have k1 := b1.sl.cells_eq
    have k2 := b2.sl.cells_eq
    have t1 := b1.sl.run_st (P := Tryz.prog)
    have t2 := b2.sl.run_st (P := Tryz.prog)
    have htop := hin.ok.top k hlt
    have H := Lib.hid (And.intro hin (And.intro hr (And.intro x (And.intro b1 hf))))
    have HG := Lib.hid hg
    clear hin hr x b1 b2 hf hg
    go_wp2_with fail
    refine (clone_bytes _ _ (blk m k).b (H.out.2.2.2.1.sl.ext (by decide) (Mod.alloc (Mod.refl _ _) _)) (by omega)).mono ?_
    rintro e w1 ⟨v1, rfl, o1, x1, f1⟩
    rw [List.length_map] at o1
    obtain ⟨la, lc, hv1, _⟩ := o1.sl.shape
    subst hv1
    have XW : Ext wr w1 := (Mod.alloc (Mod.refl _ _) _).trans x1
    have hr1 := H.out.2.1.ext XW
    have f2 : ∀ q, u3.ownBlock = some q → q < w1.heap.size := fun q hq => hr1.row.lt hq
    have one1 : ∀ x ∈ [Value.slice la (blk m k).b.length lc], x.oneCell' = true := by intro x hx; simp at hx; subst hx; rfl
    have O := Lib.hid (And.intro o1 (And.intro XW f1))
    clear o1 x1 f1 XW
    go_wp2_with (at_builtin; go_loud (refine wpList_app IBB rfl (.tmp 15) (.tmp 19) rfl (hr1.row.ext (Mod.alloc (Mod.refl _ _) _)) (built_sl (n := 1) (g := w1.heap.size) (e := 68) (cs := #[Value.slice la (blk m k).b.length lc]) (by simp only [heap_alloc_if, if_true]) rfl (by simp only [maxLen]; omega)) one1 (by simp [Act.eval]) (by simp [Act.eval]) (by omega) (by simp only [maxLen]; omega) ?_); intro lv' w2 ol2 gr2 fr2 nn2; have HH := Lib.hid (And.intro ol2 (And.intro gr2 fr2)); clear ol2 gr2 fr2 nn2)
    go_roundw
    case rel =>
     obtain ⟨ol2, gr2, fr2⟩ := HH.out
     have M2 : Mod (fun q => u3.ownBlock = some q) w1 w2 := Mod.grown (Mod.alloc (Mod.refl _ _) _) gr2 (fun q h => .inl h)
     refine ⟨k + 1, _, by omega, by go_num, hr1.push M2 ol2 O.out.1, (H.out.2.2.1.trans O.out.2.1).trans' M2 (fun q hq => .inr (H.out.2.2.2.2 q hq)), fun q hq => ?_, fun i q hi hq => ?_⟩
     · rcases fr2 q hq with h | h
       · exact H.out.2.2.2.2 q h
       · simp only [World.size_alloc] at h
         have := O.out.2.1.size
         have := H.out.2.2.1.size
         omega
     · by_cases e : i = k
       · subst e
         rw [upd_same] at hq
         have h1 := O.out.2.2 q hq
         have := H.out.2.2.1.size
         simp only [World.size_alloc] at h1
         omega
       · rw [upd_lt (by omega)] at hq
         exact HG.out i q (by omega) hq
    case measure => simp [intOf]; omega
  · have hlt' : ¬ (k : Int) < (m.length : Int) := by omega
    obtain rfl : k = m.length := by omega
    go_wp2
    go_ret
    exact ⟨_, rfl, _, hr, x, fun q hq => hq.elim (hf q) (fun ⟨i, hi, hq⟩ => hg i q hi hq)⟩
theorem all_any (w : World) (p : Value) (m : List Blk) (S : Nat → Prop) (h : BlocksAt w p m S) :
 Calls Tryz.prog 67 #[p] w fun e w' => ∃ v V, e = .returned v ∧ RowsIn w' v V m.length (fun i => (blk m i).b) ∧ Ext w w' :=
 (allf_any w p m S h).mono fun e w' ⟨v, V, h1, h2, h3, _⟩ => ⟨v, V, h1, h2, h3⟩
end Go.Proofs.YtbhocahmhmafmaaGreat
namespace Go.Proofs.YtbhocahmhmafmaaGreat
open Go.Ren Go.RowKit
set_option linter.unusedVariables false
theorem one2 (a1 : Option Addr) (n1 c1 : Nat) (a2 : Option Addr) (n2 c2 : Nat) : ∀ x ∈ [Value.slice a1 n1 c1, Value.slice a2 n2 c2], x.oneCell' = true := by
 intro x hx; simp at hx; rcases hx with rfl | rfl <;> rfl
theorem take_len {m : List Blk} {k : Nat} (h : k ≤ m.length) : (m.take k).length = k := by simp; omega
theorem take_next {m : List Blk} {k : Nat} (h : k < m.length) : m.take (k + 1) = m.take k ++ [blk m k] := by rw [List.take_succ_eq_append_getElem h, blk_eq h]
set_option maxRecDepth 100000 in
set_option maxHeartbeats 800000 in
theorem copy_any (w : World) (p : Value) (m : List Blk) (S : Nat → Prop) (h : BlocksAt w p m S) :
 Calls Tryz.prog 34 #[p] w fun e w' => ∃ po S', e = .returned (.pointer (some ⟨po, 0, none⟩)) ∧ BlocksAt w' (.pointer (some ⟨po, 0, none⟩)) m S' ∧ Ext w w' ∧ ∀ k, S' k → w.heap.size ≤ k := by
 obtain ⟨pb, lv, V, Y, rfl, hin, _⟩ := h.ex
 clear h
 have c0 := cell_of_one hin.box
 have l0 := hin.row.sl.run_len (P := Tryz.prog) I1.und 3
 have hcnt := hin.ok.cnt
 have xa : Ext w (w.alloc (.cells #[.slice none 0 0] 133)) := (Mod.refl _ _).alloc _
 have c00 := xa.cell c0
 clear xa
 go_enter Tryz.func34, Tryz.ntmps34
 go_wp2
 obtain ⟨wc, hwc⟩ : ∃ wc, wc = w.alloc (.cells #[.slice none 0 0] 133) := ⟨_, rfl⟩
 have x1 : Ext w wc := by rw [hwc]; exact (Mod.refl _ _).alloc _
 have B0 : BlocksIn wc w.heap.size (.slice none 0 0) V Y (m.take 0) := ⟨by rw [hwc]; simp only [heap_alloc_if, if_true], Own.nil _ _ _, fun i hi => by simp at hi, fun i hi => by simp at hi, fun i j k hi => by simp at hi, fun i j k hi => by simp at hi, bok_nil⟩
 obtain ⟨po, hpo⟩ : ∃ po, po = w.heap.size := ⟨_, rfl⟩
 rw [← hwc, ← hpo]
 rw [← hpo] at B0
 have HPO := Lib.hid hpo
 clear hwc hpo
 go_loopw [13] (fun s13 wr => ∃ (k : Nat) (lw : Value) (V' Y' : Nat → Value), k ≤ m.length ∧ s13 = .int .i64 (k : Int) ∧ BlocksIn wr po lw V' Y' (m.take k) ∧ Ext w wr ∧ ∀ q, BlocksFp po lw V' Y' (m.take k).length q → w.heap.size ≤ q) (fun i _ => m.length - (intOf i).toNat)
 case atStart => exact ⟨0, _, V, Y, Nat.zero_le _, rfl, B0, x1, fun q hq => by
  rcases hq with rfl | hq | ⟨i, hi, _⟩
  · have := HPO.out; omega
  · cases hq
  · simp at hi⟩
 case round =>
  obtain ⟨k, lw, V', Y', hk, rfl, hb, x, hf⟩ := hrel
  clear B0 c0 c00
  by_cases hlt : k < m.length
  · have hlt' : (k : Int) < (m.length : Int) := by omega
    obtain ⟨L, hL⟩ : ∃ L, L = m.take k := ⟨_, rfl⟩
    have tl := take_len hk
    rw [← hL] at hb hf tl
    have hLN : m.take (k + 1) = L ++ [blk m k] := by rw [hL]; exact take_next hlt
    have HL := Lib.hid hLN
    clear hL hLN
    have i0 := hin.row.sl.run_idx (P := Tryz.prog) I1.und I1.size .i64 k hlt
    have c1 := x.cell (hin.cV hlt)
    have c2 := x.cell (hin.cY hlt)
    have b1 := (hin.bs k hlt).ext x
    have b2 := (hin.ys k hlt).ext x
    have k1 := b1.sl.cells_eq
    have k2 := b2.sl.cells_eq
    have t1 := b1.sl.run_st (P := Tryz.prog)
    have t2 := b2.sl.run_st (P := Tryz.prog)
    have htop := hin.ok.top k hlt
    have hyl := hin.ok.len k hlt
    have H := Lib.hid (And.intro hin (And.intro x (And.intro hf hyl)))
    have HB := Lib.hid hb
    have hy2 : (blk m k).y.length ≤ 256 := by omega
    clear hin x hf hyl
    go_wp2_with fail
    obtain ⟨g, hg⟩ : ∃ g, g = wr.heap.size := ⟨_, rfl⟩
    obtain ⟨w0, hw0⟩ : ∃ w0, w0 = wr.alloc (.cells #[V k, Y k] 138) := ⟨_, rfl⟩
    have x0 : Ext wr w0 := by rw [hw0]; exact (Mod.refl _ _).alloc _
    have d0 : w0.cell? ⟨po, 0, none⟩ = some lw := x0.cell (cell_of_one HB.out.box)
    have d1 : w0.cell? ⟨g, 0, none⟩ = some (V k) := by rw [hw0, hg]; simp
    have d2 : w0.cell? ⟨g, 1, none⟩ = some (Y k) := by rw [hw0, hg]; simp
    have hS : ∀ w', Ext w0 w' → (w'.cell? ⟨po, 0, none⟩ = some lw ∧ w'.cell? ⟨g, 0, none⟩ = some (V k) ∧ w'.cell? ⟨g, 1, none⟩ = some (Y k)) := fun w' h => ⟨h.cell d0, h.cell d1, h.cell d2⟩
    have hBy : ∀ w', Ext w0 w' → BytesAt w' (V k) (blk m k).b := fun w' hw => b1.sl.ext (by decide) (x0.trans hw)
    have hIn : ∀ w', Ext w0 w' → IntsAt w' (Y k) (blk m k).y := fun w' hw => ⟨b2.sl.ext (by decide) (x0.trans hw), H.out.1.ok.ok k hlt⟩
    rw [← hw0, ← hg]
    have HW := Lib.hid (And.intro hw0 (And.intro hg x0))
    clear hw0 hg x0 c1 c2 b1 b2 k1 k2 t1 t2 hb
    have hsz : L.length + 1 ≤ 16 := by omega
    clear tl
    go_region_law (first | (refine step_app I1 rfl (.tmp 21) (.tmp 29) rfl (HB.out.row.ext ?_) (built_sl (n := 1) (g := w2.heap.size) (e := 138) (cs := #[.slice la1 (blk m k).b.length lc1, .slice la2 (blk m k).y.length lc2]) ?_ rfl (by simp only [maxLen]; omega)) (one2 _ _ _ _ _ _) ?_ ?_ (by omega) (by simp only [maxLen]; omega) ?_; (repeat (first | exact HW.out.2.2.trans E2 | apply Mod.drew | apply Mod.alloc)); (simp only [heap_alloc_if, if_true]); (simp [Act.eval]); (simp [Act.eval]); intro lv' w3 ol3 gr3 fr3 nn3; obtain ⟨la, lc, hlv, _⟩ := ol3.sl.shape; subst hlv; have M3 : Mod (fun q => lw.ownBlock = some q) w2 w3 := Mod.grown (by repeat (first | exact Mod.refl _ _ | apply Mod.drew | apply Mod.alloc)) gr3 (fun q h => .inl h); have B3 := M3.blk (Ext.blk (HW.out.2.2.trans E2) HB.out.box) (fun e => HB.out.row.apart_obj HB.out.box (by decide) e); have c3 := cell_of_one B3; have f3 := free_of_one B3) | (go_simp; go_at_call 89; refine (clone_bytes _ _ (blk m k).b (hBy _ (by repeat (first | exact Mod.refl _ _ | apply Mod.drew))) (by omega)).mono ?_; rintro e w1 ⟨v1, rfl, o1, y1, f1⟩; rw [List.length_map] at o1; obtain ⟨la1, lc1, hv1, _⟩ := o1.sl.shape; subst hv1; have E1 : Ext w0 w1 := Mod.trans (by repeat (first | exact Mod.refl _ _ | apply Mod.drew)) y1; obtain ⟨p10, p11, p12⟩ := hS _ E1) | (go_simp; go_at_call 90; refine (clone_ints _ _ (blk m k).y (hIn _ E1) (by omega)).mono ?_; rintro e w2 ⟨v2, rfl, o2, y2, f2⟩; rw [List.length_map] at o2; obtain ⟨la2, lc2, hv2, _⟩ := o2.sl.shape; subst hv2; have E2 : Ext w0 w2 := Mod.trans E1 y2; obtain ⟨p20, p21, p22⟩ := hS _ E2; have p23 : (w2.alloc (.cells #[.slice la1 (blk m k).b.length lc1, .slice la2 (blk m k).y.length lc2] 138)).cell? ⟨po, 0, none⟩ = some lw := Ext.cell ((Mod.refl _ _).alloc _) p20))
    all_goals
     have F3 : ∀ q, (Value.slice la (L.length + 1) lc).ownBlock = some q → lw.ownBlock = some q ∨ w2.heap.size ≤ q := fun q hq => (fr3 q hq).imp id (fun h => by simp only [World.size_alloc] at h; omega)
     have P := blocks_push (B := blk m k) HB.out (HW.out.2.2.trans E2) M3 ol3 F3 (o1.ext y2) o2 (fun q hq => Nat.le_trans HW.out.2.2.size (f1 q hq)) (fun q hq => Nat.le_trans (Nat.le_trans HW.out.2.2.size E1.size) (f2 q hq)) H.out.2.2.2 htop (H.out.1.ok.ok k hlt) (by omega)
     have HP := Lib.hid P
     clear P F3 M3 ol3 gr3 fr3 B3 o1 o2 y1 y2 f1 f2 E1
     go_wp2_with fail
     go_roundw
     case rel =>
      obtain ⟨P1, P2, P3⟩ := HP.out
      rw [← HL.out] at P1 P3
      exact ⟨k + 1, _, _, _, by omega, by go_num, P1, H.out.2.1.trans' P2 (fun q hq => .inr (H.out.2.2.1 q hq)), fun q hq => (P3 q hq).elim (H.out.2.2.1 q) (fun h => Nat.le_trans H.out.2.1.size h)⟩
     case measure => simp [intOf]; omega
  · have hlt' : ¬ (k : Int) < (m.length : Int) := by omega
    obtain rfl : k = m.length := by omega
    rw [List.take_length] at hb hf
    have H := Lib.hid (And.intro hb (And.intro x hf))
    clear hb x hf
    go_wp2
    go_ret
    exact ⟨po, rfl, _, ⟨po, lw, V', Y', rfl, H.out.1, fun q => Iff.rfl⟩, H.out.2.1, H.out.2.2⟩
end Go.Proofs.YtbhocahmhmafmaaGreat
namespace Go.Proofs.YtbhocahmhmafmaaGreat
open Go.Ren Go.RowKit
set_option linter.unusedVariables false
set_option maxRecDepth 100000 in
theorem sameBytes_any (w : World) (v1 v2 : Value) (V1 V2 : Nat → Value) (n : Nat) (L : Nat → List UInt8) (h1 : RowsIn w v1 V1 n L) (h2 : RowsIn w v2 V2 n L) (hn : n ≤ 1000000) :
 Calls Tryz.prog 18 #[v1, v2] w fun e w' => e = .returned (.bool true) ∧ ∃ k, w' = w.drewN k := by
 have l1 := h1.row.sl.run_len (P := Tryz.prog) IBB.und 3
 have l2 := h2.row.sl.run_len (P := Tryz.prog) IBB.und 3
 go_enter Tryz.func18, Tryz.ntmps18
 go_wp2_with fail
 go_loopw [5] (fun s5 wr => ∃ k j : Nat, k ≤ n ∧ s5 = .int .i64 (k : Int) ∧ wr = w.drewN j) (fun i _ => n - (intOf i).toNat)
 case atStart => exact ⟨0, 0, Nat.zero_le _, rfl, rfl⟩
 case round =>
  obtain ⟨k, j, hk, rfl, rfl⟩ := hrel
  by_cases hlt : k < n
  · have hlt' : (k : Int) < (n : Int) := by omega
    have i1 := h1.row.sl.run_idx (P := Tryz.prog) IBB.und IBB.size .i64 k hlt
    have i2 := h2.row.sl.run_idx (P := Tryz.prog) IBB.und IBB.size .i64 k hlt
    simp only [Nat.mul_one] at i1 i2
    obtain ⟨W, hW⟩ : ∃ W, W = w.drewN j := ⟨_, rfl⟩
    have xW : Ext w W := by rw [hW]; exact (Mod.refl _ _).drewN j
    have c1 := xW.cell (h1.cell hlt)
    have c2 := xW.cell (h2.cell hlt)
    have b1 := (h1.bs k hlt).ext xW
    have b2 := (h2.bs k hlt).ext xW
    rw [← hW]
    have HS : ∀ a, Calls Tryz.prog 66 #[V1 k, V2 k] (W.drewN a) fun e w' => e = .returned (.bool true) ∧ w' = W.drewN a := by
     intro a
     have xx : Ext W (W.drewN a) := (Mod.refl _ _).drewN a
     refine (bytes_any _ _ _ (L k) (L k) (b1.ext xx).sl (b2.ext xx).sl).mono ?_
     rintro e w' ⟨rfl, rfl⟩
     exact ⟨by rw [beq_self_eq_true], rfl⟩
    have HH := Lib.hid HS
    have HW := Lib.hid hW
    clear HS b1 b2 hW
    go_wp2_with fail
    go_quiet (exact Calls.quiet_of_same (HH.out _))
    go_wp2_with fail
    go_roundw
    case rel => exact ⟨k + 1, j + nq, by omega, by go_num, by rw [HW.out, World.drewN_drewN]⟩
    case measure => simp [intOf]; omega
  · have hlt' : ¬ (k : Int) < (n : Int) := by omega
    go_wp2_with fail
    go_ret
    exact ⟨rfl, _, rfl⟩
end Go.Proofs.YtbhocahmhmafmaaGreat
