/-
  The contract of block.Write. No condition.
-/
import Derived.Test.YtnnciakdeoopaaaBlkMake
namespace Go.Proofs.Ytnnciakdeoopaaa
open Go.Ren Go.RowKit

theorem blk_set_same {m : List Blk} {i : Nat} {B : Blk} (h : i < m.length) : blk (m.set i B) i = B := by simp [blk, h]
theorem blk_set_other {m : List Blk} {i j : Nat} {B : Blk} (h : j ≠ i) : blk (m.set i B) j = blk m j := by simp [blk, Ne.symm h]

/-- What a write into one block does to the blocks in memory. -/
theorem blocks_write {w w2 : World} {pb : Nat} {lv : Value} {V Y : Nat → Value} {m : List Blk} (hin : BlocksIn w pb lv V Y m) {i : Nat} (hi : i < m.length) (M : Mod (fun q => (V i).ownBlock = some q ∨ (Y i).ownBlock = some q) w w2)
    {B : Blk} (ob : Own w2 5 1 (V i) B.b.length (B.b.map bv)) (oy : Own w2 3 1 (Y i) B.y.length (B.y.map iv)) (h1 : B.y.length = B.b.length) (h2 : B.b.length ≤ 256) (h3 : ∀ x ∈ B.y, I64 x) :
    BlocksIn w2 pb lv V Y (m.set i B) := by
  have hl : (m.set i B).length = m.length := List.length_set
  have bi := hin.bs i hi
  have yi := hin.ys i hi
  refine ⟨M.blk hin.box (fun h => h.elim (fun h => bi.apart_obj hin.box (by decide) h) (fun h => yi.apart_obj hin.box (by decide) h)), ?_, ?_, ?_, ?_, ?_, ?_⟩
  · rw [hl]
    exact hin.row.mod M (fun k hk h => h.elim (fun h => bi.apart hin.row (by decide) h hk) (fun h => yi.apart hin.row (by decide) h hk))
  · intro j hj
    rw [hl] at hj
    by_cases e : j = i
    · subst e; rw [blk_set_same hi]; exact ob
    · rw [blk_set_other e]
      exact (hin.bs j hj).mod M (fun k hk h => h.elim (fun h => e (hin.dV j i k hj hi hk h)) (fun h => yi.apart (hin.bs j hj) (by decide) h hk))
  · intro j hj
    rw [hl] at hj
    by_cases e : j = i
    · subst e; rw [blk_set_same hi]; exact oy
    · rw [blk_set_other e]
      exact (hin.ys j hj).mod M (fun k hk h => h.elim (fun h => bi.apart (hin.ys j hj) (by decide) h hk) (fun h => e (hin.dY j i k hj hi hk h)))
  · intro a b k ha hb h4 h5; rw [hl] at ha hb; exact hin.dV a b k ha hb h4 h5
  · intro a b k ha hb h4 h5; rw [hl] at ha hb; exact hin.dY a b k ha hb h4 h5
  · refine ⟨by rw [hl]; exact hin.ok.cnt, ?_, ?_, ?_⟩
    all_goals
      intro j hj
      rw [hl] at hj
      by_cases e : j = i
      · subst e; rw [blk_set_same hi]; assumption
      · rw [blk_set_other e]; first | exact hin.ok.len j hj | exact hin.ok.top j hj | exact hin.ok.ok j hj

set_option maxRecDepth 100000 in
theorem write_any (w : World) (p : Value) (m : List Blk) (S : Nat → Prop) (h : BlocksAt w p m S) (k a : Int) (u : Value) (x : List UInt8) (hu : BytesAt w u x) (hx : x.length ≤ 1000000) (by_ : Int) (hby : I64 by_) :
    Calls Try.prog 21 #[p, .int .i64 k, .int .i64 a, u, .int .i64 by_] w fun e w' => e = .returned (.int .i64 (bcheck m k a x.length)) ∧ BlocksAt w' p (bwrite m k a x by_) S ∧ Mod S w w' := by
  have hck := check_any w p m S h k a x.length
  have lu := Sl.run_len (P := Try.prog) hu IB.und 3
  by_cases h0 : bcheck m k a x.length = 0
  case neg =>
    have hne : (bcheck m k a x.length != 0) = true := by rw [bne_iff_ne]; exact h0
    have eb : bwrite m k a x by_ = m := by unfold bwrite; rw [if_neg h0]
    rw [eb]; clear eb
    have H := Lib.hid hck; have HB := Lib.hid h; clear hck h h0 hu
    generalize bcheck m k a x.length = ck at *
    go_enter Try.func21, Try.ntmps21
    go_wp2_with (go_at_call 49; refine H.out.mono ?_; rintro e w' ⟨rfl, rfl⟩)
    go_ret
    exact ⟨rfl, HB.out, Mod.refl _ _⟩
  case pos =>
    obtain ⟨pb, lv, V, Y, rfl, hin, hS⟩ := h.ex
    obtain ⟨q1, q2, q3, q4, q5, q6⟩ := bcheck_0 h0
    have eb : bwrite m k a x by_ = m.set k.toNat (wBlk (blk m k.toNat) a.toNat x by_) := by unfold bwrite; rw [if_pos h0]
    rw [eb, h0]; clear eb
    rw [h0] at hck
    obtain ⟨i, rfl⟩ := Int.eq_ofNat_of_zero_le q1
    obtain ⟨a, rfl⟩ := Int.eq_ofNat_of_zero_le q3
    simp only [Int.toNat_natCast] at q5 ⊢
    have q2' : i < m.length := by omega
    have HS := Lib.hid hS
    have H := Lib.hid hck
    clear h0 q6 q1 q3 q4 hck hS h
    have c0 := cell_of_one hin.box
    have i0 := hin.row.sl.run_idx (P := Try.prog) I1.und I1.size .i64 i q2'
    have c1 := hin.cV q2'
    have b1 := hin.bs i q2'
    have b2 := hin.ys i q2'
    have htop := hin.ok.top i q2'
    have su : Sl w u 1 x.length (x.map bv) := hu
    have hlo : a + x.length ≤ (blk m i).b.length := by omega
    have s1 := b1.sl.run_sub_lo (P := Try.prog) IB.und IB.size .i64 a (by omega)
    go_enter Try.func21, Try.ntmps21
    go_wp2_with (first | (go_at_call 49; refine H.out.mono ?_; rintro e w' ⟨rfl, rfl⟩) | ((with_reducible show wpList _ _ _ _ _ _); refine wpList_copy rfl (.tmp 31) (.tmp 32) rfl IB.und IB.size b1 hlo su (one_bv x) rfl rfl ?_; intro w1 ob1 m1))
    go_loopw [36] (fun s36 wr => ∃ k : Nat, k ≤ x.length ∧ s36 = .int .i64 k ∧ Mod (fun q => (Y i).ownBlock = some q) w1 wr ∧ Own wr 3 1 (Y i) (blk m i).y.length ((splice (blk m i).y a (List.replicate k by_)).map iv)) (fun i _ => x.length - (intOf i).toNat)
    case atStart =>
      have hy := hin.ys i q2'
      exact ⟨0, Nat.zero_le _, rfl, Mod.refl _ _, by rw [List.replicate_zero, splice_nil]; exact hy.mod m1 (fun k hk h => b1.apart hy (by decide) h hk)⟩
    case round =>
      obtain ⟨k, hk, rfl, xr, or⟩ := hrel
      have MW : Mod (fun q => (V i).ownBlock = some q ∨ (Y i).ownBlock = some q) w wr := (m1.weak (fun _ h => .inl (.inl h))).trans' xr (fun _ h => .inl (.inr h))
      have hlen := hin.ok.len i q2'
      have HL := Lib.hid hlen; clear hlen
      have bx := MW.blk hin.box (fun h => h.elim (fun h => b1.apart_obj hin.box (by decide) h) (fun h => (hin.ys i q2').apart_obj hin.box (by decide) h))
      have c0r := cell_of_one bx
      have rr := hin.row.mod MW (fun k hk h => h.elim (fun h => b1.apart hin.row (by decide) h hk) (fun h => (hin.ys i q2').apart hin.row (by decide) h hk))
      have c2r : wr.cell? ⟨(at_ lv (i * 2)).block, (at_ lv (i * 2)).off + 1, none⟩ = some (Y i) := rr.sl.cell_off (by decide) (by have := flat_get (sz := 2) (j := 1) (fun i j => if j = 0 then V i else Y i) q2' (by decide); simpa using this)
      by_cases hlt : k < x.length
      · have hlt' : (k : Int) < (x.length : Int) := by omega
        have hak : a + k < (blk m i).y.length := by have := HL.out; omega
        have iy := or.sl.run_idx (P := Try.prog) II.und II.size .i64 (a + k) hak
        simp only [Nat.mul_one, Int.natCast_add] at iy
        have fr := or.frozen (a + k) (by omega)
        have cr := or.sl.cell (a + k) _ (List.getElem?_eq_getElem (by rw [List.length_map, length_splice _ _ _ (by simp; omega)]; exact hak))
        have os := or.set (by omega) (a + k) (iv by_)
        have es : ((splice (blk m i).y a (List.replicate k by_)).map iv).set (a + k) (iv by_) = (splice (blk m i).y a (List.replicate (k + 1) by_)).map iv := by rw [← List.map_set, splice_set _ _ _ _ hak]
        rw [es] at os
        have xs : Mod (fun q => (Y i).ownBlock = some q) w1 (wr.setCell (at_ (Y i) (a + k)) (iv by_)) := xr.setCell (.inl (or.at_block (by omega) _)) _
        have OS := Lib.hid (And.intro os xs)
        have hsum : (a : Int) + (k : Int) ≤ 256 := by omega
        clear os xs es bx rr m1 xr MW or
        go_wp2
        go_roundw
        case rel => exact ⟨k + 1, by omega, by go_num, OS.out.2, OS.out.1⟩
        case measure => simp [intOf]; omega
      · have hlt' : ¬ (k : Int) < (x.length : Int) := by omega
        obtain rfl : k = x.length := by omega
        have ob : Own wr 5 1 (V i) (wBlk (blk m i) a x by_).b.length ((wBlk (blk m i) a x by_).b.map bv) := by
          have h1 := ob1.mod xr (fun k hk h => (hin.ys i q2').apart b1 (by decide) h hk)
          simp only [wBlk, splice_map]
          rw [length_splice _ _ _ (by omega)]
          exact h1
        have oy : Own wr 3 1 (Y i) (wBlk (blk m i) a x by_).y.length ((wBlk (blk m i) a x by_).y.map iv) := by
          simp only [wBlk]
          rw [length_splice _ _ _ (by simp; have := HL.out; omega)]
          exact or
        have P := blocks_write hin q2' MW ob oy (by simp only [wBlk]; rw [length_splice _ _ _ (by simp; have := HL.out; omega), length_splice _ _ _ (by omega)]; exact HL.out) (by simp only [wBlk]; rw [length_splice _ _ _ (by omega)]; exact htop)
          (by
            intro z hz
            simp only [wBlk, splice, List.mem_append, List.mem_replicate] at hz
            rcases hz with hz | ⟨_, rfl⟩ | hz
            · exact hin.ok.ok i q2' z (List.mem_of_mem_take hz)
            · exact hby
            · exact hin.ok.ok i q2' z (List.mem_of_mem_drop hz))
        have HP := Lib.hid (And.intro P MW)
        clear P MW ob oy xr or m1 ob1 bx rr
        go_wp2
        go_ret
        refine ⟨rfl, ⟨pb, lv, V, Y, rfl, HP.out.1, fun q => ?_⟩, HP.out.2.weak (fun q hq => .inl ((HS.out q).2 (.inr (.inr ⟨i, q2', hq⟩))))⟩
        rw [List.length_set]; exact HS.out q
end Go.Proofs.Ytnnciakdeoopaaa
