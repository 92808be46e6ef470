/-
  The contracts of (*renref18.Blocks).Write and .All. No condition.
-/
import Derived.Test.YtnnciakdeoopaaaRefMake
import Derived.Test.YtnnciakdeoopaaaBlkWrite
import Derived.Test.YtnnciakdeoopaaaBlockKeepsLaw
namespace Go.Proofs.Ytnnciakdeoopaaa
open Go.Ren Go.RowKit
set_option linter.unusedVariables false

/-- What a block's new bytes do to the document's blocks in memory. -/
theorem ref_write {w w2 : World} {px : Nat} {lb ly : Value} {V Y : Nat → Value} {m : List Blk} (hin : RefIn w px lb ly V Y m) {i : Nat} (hi : i < m.length) (M : Mod (fun q => (V i).ownBlock = some q ∨ (Y i).ownBlock = some q) w w2)
    {B : Blk} (ob : Own w2 5 1 (V i) B.b.length (B.b.map bv)) (oy : Own w2 3 1 (Y i) B.y.length (B.y.map iv)) (h1 : B.y.length = B.b.length) (h2 : B.b.length ≤ 256) (h3 : ∀ x ∈ B.y, I64 x) : RefIn w2 px lb ly V Y (m.set i B) := by
  have hb := hin.bs i hi
  have hy := hin.ys i hi
  refine ⟨M.blk hin.box (fun h => h.elim (fun h => hb.apart_obj hin.box (by decide) h) (fun h => hy.apart_obj hin.box (by decide) h)), ?_, ?_, ?_, ?_, ?_, ?_, ?_⟩
  · rw [List.length_set]
    exact hin.rb.mod M (fun k hk h => h.elim (fun h => hb.apart hin.rb (by decide) h hk) (fun h => hy.apart hin.rb (by decide) h hk))
  · rw [List.length_set]
    exact hin.ry.mod M (fun k hk h => h.elim (fun h => hb.apart hin.ry (by decide) h hk) (fun h => hy.apart hin.ry (by decide) h hk))
  · intro j hj
    rw [List.length_set] at hj
    by_cases e : j = i
    · subst e; rw [blk_set_same hi]; exact ob
    · rw [blk_set_other e]
      exact (hin.bs j hj).mod M (fun k hk h => h.elim (fun h => e (hin.dV j i k hj hi hk h)) (fun h => hy.apart (hin.bs j hj) (by decide) h hk))
  · intro j hj
    rw [List.length_set] at hj
    by_cases e : j = i
    · subst e; rw [blk_set_same hi]; exact oy
    · rw [blk_set_other e]
      exact (hin.ys j hj).mod M (fun k hk h => h.elim (fun h => hb.apart (hin.ys j hj) (by decide) h hk) (fun h => e (hin.dY j i k hj hi hk h)))
  · intro a b k ha hb' h4 h5; rw [List.length_set] at ha hb'; exact hin.dV a b k ha hb' h4 h5
  · intro a b k ha hb' h4 h5; rw [List.length_set] at ha hb'; exact hin.dY a b k ha hb' h4 h5
  · refine ⟨by rw [List.length_set]; exact hin.ok.cnt, ?_, ?_, ?_⟩
    all_goals
      intro j hj
      rw [List.length_set] at hj
      by_cases e : j = i
      · subst e; rw [blk_set_same hi]; assumption
      · rw [blk_set_other e]; first | exact hin.ok.len j hj | exact hin.ok.top j hj | exact hin.ok.ok j hj

theorem splice_one {α : Type} (L x : List α) (a k : Nat) (hk : k < x.length) (hl : a + x.length ≤ L.length) : (splice L a (x.take k)).set (a + k) x[k] = splice L a (x.take (k + 1)) := by
  have l1 : (x.take k).length = k := by simp; omega
  have l2 : (x.take (k + 1)).length = k + 1 := by simp; omega
  have l3 := length_splice L a (x.take k) (by omega)
  apply List.ext_getElem?
  intro j
  rw [List.getElem?_set, splice_get _ _ _ (by omega), splice_get _ _ _ (by omega), l1, l2, l3]
  by_cases e : a + k = j
  · subst e
    rw [if_pos rfl, if_pos (by omega), if_pos (by omega)]
    rw [show a + k - a = k by omega, List.getElem?_take, if_pos (by omega), List.getElem?_eq_getElem hk]
  · rw [if_neg e]
    by_cases h : a ≤ j ∧ j < a + k
    · rw [if_pos h, if_pos (by omega), List.getElem?_take, List.getElem?_take, if_pos (by omega), if_pos (by omega)]
    · rw [if_neg h, if_neg (by omega)]

set_option maxRecDepth 100000 in
theorem rwrite_any (w : World) (p : Value) (m : List Blk) (S : Nat → Prop) (h : RefAt w p m S) (k a : Int) (u : Value) (x : List UInt8) (hu : BytesAt w u x) (hd : ∀ q, fp u q → ¬ S q) (hx : x.length ≤ 1000000) (by_ : Int) (hby : I64 by_) :
    Calls Try.prog 28 #[p, .int .i64 k, .int .i64 a, u, .int .i64 by_] w fun e w' => e = .returned (.int .i64 (bcheck m k a x.length)) ∧ RefAt w' p (bwrite m k a x by_) S ∧ Mod S w w' := by
  have hck := rlies_any w p m S h k a x.length
  have lu := Sl.run_len (P := Try.prog) hu IB.und 3
  by_cases h0 : bcheck m k a x.length = 0
  case neg =>
    have hne : (bcheck m k a x.length == 0) = false := beq_eq_false_iff_ne.2 h0
    have eb : bwrite m k a x by_ = m := by unfold bwrite; rw [if_neg h0]
    rw [eb]; clear eb
    have H := Lib.hid hck; have HB := Lib.hid h; clear hck h h0 hu
    generalize bcheck m k a x.length = ck at *
    go_enter Try.func28, Try.ntmps28
    go_wp2_with (go_at_call 50; refine H.out.mono ?_; rintro e w' ⟨rfl, rfl⟩)
    go_loopw [12] (fun s12 wr => s12 = .int .i64 0 ∧ wr = w) (fun i _ => 0)
    case atStart => exact ⟨rfl, rfl⟩
    case round =>
      obtain ⟨rfl, rfl⟩ := hrel
      by_cases hp : 0 < x.length
      · have hp' : (0 : Int) < (x.length : Int) := by omega
        go_wp2_with fail
        go_ret
        exact ⟨rfl, HB.out, Mod.refl _ _⟩
      · have hp' : ¬ (0 : Int) < (x.length : Int) := by omega
        go_wp2_with fail
        go_ret
        exact ⟨rfl, HB.out, Mod.refl _ _⟩
  case pos =>
    obtain ⟨px, lb, ly, V, Y, rfl, hin, hS⟩ := h.ex
    obtain ⟨q1, q2, q3, q4, q5, q6⟩ := bcheck_0 h0
    have eb : bwrite m k a x by_ = m.set k.toNat (wBlk (blk m k.toNat) a.toNat x by_) := by unfold bwrite; rw [if_pos h0]
    rw [eb, h0]; clear eb
    rw [h0] at hck
    obtain ⟨i, rfl⟩ := Int.eq_ofNat_of_zero_le q1
    obtain ⟨a, rfl⟩ := Int.eq_ofNat_of_zero_le q3
    simp only [Int.toNat_natCast] at q5 ⊢
    have q2' : i < m.length := by omega
    have HS := Lib.hid hS
    have H := Lib.hid hck
    have HD := Lib.hid hd
    clear h0 q6 q1 q3 q4 hck hS h hd
    have htop := hin.ok.top i q2'
    have hyl := hin.ok.len i q2'
    have hlo : a + x.length ≤ (blk m i).b.length := by omega
    have HY := Lib.hid hyl
    clear hyl
    go_enter Try.func28, Try.ntmps28
    go_wp2_with (go_at_call 50; refine H.out.mono ?_; rintro e w' ⟨rfl, rfl⟩)
    go_loopw [12] (fun s12 wr => ∃ k : Nat, k ≤ x.length ∧ s12 = .int .i64 k ∧ Mod (fun q => (V i).ownBlock = some q ∨ (Y i).ownBlock = some q) w wr ∧
      Own wr 5 1 (V i) (blk m i).b.length ((splice (blk m i).b a (x.take k)).map bv) ∧ Own wr 3 1 (Y i) (blk m i).y.length ((splice (blk m i).y a (List.replicate k by_)).map iv)) (fun i _ => x.length - (intOf i).toNat)
    case atStart => exact ⟨0, Nat.zero_le _, rfl, Mod.refl _ _, by rw [List.take_zero, splice_nil]; exact hin.bs i q2', by rw [List.replicate_zero, splice_nil]; exact hin.ys i q2'⟩
    case round =>
      obtain ⟨k, hk, rfl, xr, ob, oy⟩ := hrel
      have b1 := hin.bs i q2'
      have b2 := hin.ys i q2'
      by_cases hlt : k < x.length
      · have hlt' : (k : Int) < (x.length : Int) := by omega
        have hsum : (a : Int) + (k : Int) ≤ 256 := by omega
        have hbx : ¬ ((V i).ownBlock = some px ∨ (Y i).ownBlock = some px) := fun h => h.elim (fun h => b1.apart_obj hin.box (by decide) h) (fun h => b2.apart_obj hin.box (by decide) h)
        have bx := xr.blk hin.box hbx
        have rb := hin.rb.mod xr (fun k hk h => h.elim (fun h => b1.apart hin.rb (by decide) h hk) (fun h => b2.apart hin.rb (by decide) h hk))
        have ry := hin.ry.mod xr (fun k hk h => h.elim (fun h => b1.apart hin.ry (by decide) h hk) (fun h => b2.apart hin.ry (by decide) h hk))
        have hxu : BytesAt wr u x := BytesAt.mod hu xr (fun q hq h => HD.out q hq ((HS.out q).2 (.inr (.inr (.inr ⟨i, q2', h⟩)))))
        have C0 : wr.cell? ⟨px, 0, none⟩ = some lb := by simp [World.cell?, bx]
        have C1 : wr.cell? (at_ lb i) = some (V i) := rb.sl.cell i _ (flat1 V q2')
        have C2 : wr.cell? (at_ u k) = some (.int .u8 (x[k].toNat : Int)) := BytesAt.cell hxu hlt
        have i0 := hin.rb.sl.run_idx (P := Try.prog) IBB.und IBB.size .i64 i q2'
        have j0 := hin.ry.sl.run_idx (P := Try.prog) IYY.und IYY.size .i64 i q2'
        have iu := Sl.run_idx (P := Try.prog) hu IB.und IB.size .i64 k hlt
        have ib := ob.sl.run_idx (P := Try.prog) IB.und IB.size .i64 (a + k) (by omega)
        have iy := oy.sl.run_idx (P := Try.prog) II.und II.size .i64 (a + k) (by have := HY.out; omega)
        simp only [Nat.mul_one, Int.natCast_add] at ib iy i0 j0 iu
        have fr := ob.frozen (a + k) (by omega)
        have cr := ob.sl.cell (a + k) _ (List.getElem?_eq_getElem (by rw [List.length_map, length_splice _ _ _ (by simp; omega)]; omega))
        have os := ob.set (by omega) (a + k) (bv x[k])
        have es : ((splice (blk m i).b a (x.take k)).map bv).set (a + k) (bv x[k]) = (splice (blk m i).b a (x.take (k + 1))).map bv := by rw [← List.map_set, splice_one _ _ _ _ hlt hlo]
        rw [es] at os
        have fq : (V i).ownBlock = some (at_ (V i) (a + k)).block := ob.at_block (by omega) _
        have X1 := Lib.hid (And.intro xr (And.intro os (And.intro fq (And.intro rb (And.intro ry (And.intro ob (And.intro oy bx)))))))
        clear es os fq rb ry bx oy ob xr hxu
        go_wp2_with fail
        go_region
        obtain ⟨xr, os, fq, rb, ry, ob, oy, bx⟩ := X1.out
        have M5 : Mod (fun q => (V i).ownBlock = some q) wr (wr.setCell (at_ (V i) (a + k)) (.int .u8 (x[k].toNat : Int))) := Mod.setCell (F := fun q => (V i).ownBlock = some q) (Mod.refl _ _) (.inl fq) _
        obtain ⟨w5, hw5⟩ : ∃ w5, w5 = wr.setCell (at_ (V i) (a + k)) (.int .u8 (x[k].toNat : Int)) := ⟨_, rfl⟩
        have os' : Own w5 5 1 (V i) (blk m i).b.length ((splice (blk m i).b a (x.take (k + 1))).map bv) := by rw [hw5]; exact os
        rw [← hw5] at M5 ⊢
        clear hw5 os X1
        have bx5 := M5.blk bx (fun h => ob.apart_obj bx (by decide) h)
        have ry5 := ry.mod M5 (fun q hq h => ob.apart ry (by decide) h hq)
        have oy5 := oy.mod M5 (fun q hq h => ob.apart oy (by decide) h hq)
        have D0 : w5.cell? ⟨px, 1, none⟩ = some ly := by simp [World.cell?, bx5]
        have D1 : w5.cell? (at_ ly i) = some (Y i) := ry5.sl.cell i _ (flat1 Y q2')
        have fy := oy5.frozen (a + k) (by have := HY.out; omega)
        have cy := oy5.sl.cell (a + k) _ (List.getElem?_eq_getElem (by rw [List.length_map, length_splice _ _ _ (by simp; have := HY.out; omega)]; have := HY.out; omega))
        have oys := oy5.set (by have := HY.out; omega) (a + k) (iv by_)
        have es : ((splice (blk m i).y a (List.replicate k by_)).map iv).set (a + k) (iv by_) = (splice (blk m i).y a (List.replicate (k + 1) by_)).map iv := by rw [← List.map_set, splice_set _ _ _ _ (by have := HY.out; omega)]
        rw [es] at oys
        have fqy : (Y i).ownBlock = some (at_ (Y i) (a + k)).block := oy5.at_block (by have := HY.out; omega) _
        have MT : Mod (fun q => (V i).ownBlock = some q ∨ (Y i).ownBlock = some q) w (w5.setCell (at_ (Y i) (a + k)) (iv by_)) := (xr.trans' M5 (fun q h => .inl (.inl h))).setCell (.inl (.inr fqy)) _
        have ob6 : Own (w5.setCell (at_ (Y i) (a + k)) (iv by_)) 5 1 (V i) (blk m i).b.length ((splice (blk m i).b a (x.take (k + 1))).map bv) :=
          os'.mod (Mod.setCell (F := fun q => (Y i).ownBlock = some q) (Mod.refl _ _) (.inl fqy) _) (fun q hq h => oy5.apart os' (by decide) h hq)
        have OS := Lib.hid (And.intro MT (And.intro ob6 oys))
        clear MT ob6 oys es os' bx5 ry5 oy5 xr M5 fq rb ry ob oy bx fqy
        go_wp2_with fail
        go_roundw
        case rel => exact ⟨k + 1, by omega, by go_num, OS.out.1.drew, OS.out.2.1, OS.out.2.2⟩
        case measure => simp [intOf]; omega
      · have hlt' : ¬ (k : Int) < (x.length : Int) := by omega
        obtain rfl : k = x.length := by omega
        have ob' : Own wr 5 1 (V i) (wBlk (blk m i) a x by_).b.length ((wBlk (blk m i) a x by_).b.map bv) := by
          simp only [wBlk]
          rw [length_splice _ _ _ (by omega)]
          rw [List.take_length] at ob
          exact ob
        have oy' : Own wr 3 1 (Y i) (wBlk (blk m i) a x by_).y.length ((wBlk (blk m i) a x by_).y.map iv) := by
          simp only [wBlk]
          rw [length_splice _ _ _ (by simp; have := HY.out; omega)]
          exact oy
        have P := ref_write hin q2' xr ob' oy' (by simp only [wBlk]; rw [length_splice _ _ _ (by simp; have := HY.out; omega), length_splice _ _ _ (by omega)]; exact HY.out) (by simp only [wBlk]; rw [length_splice _ _ _ (by omega)]; exact htop)
          (by
            intro z hz
            simp only [wBlk, splice, List.mem_append, List.mem_replicate] at hz
            rcases hz with hz | ⟨_, rfl⟩ | hz
            · exact hin.ok.ok i q2' z (List.mem_of_mem_take hz)
            · exact hby
            · exact hin.ok.ok i q2' z (List.mem_of_mem_drop hz))
        have HP := Lib.hid (And.intro P xr)
        clear P xr ob oy ob' oy' b1 b2
        go_wp2_with fail
        go_ret
        refine ⟨rfl, ⟨px, lb, ly, V, Y, rfl, HP.out.1, fun q => ?_⟩, HP.out.2.weak (fun q hq => .inl ((HS.out q).2 (.inr (.inr (.inr ⟨i, q2', hq⟩)))))⟩
        rw [List.length_set]; exact HS.out q

set_option maxRecDepth 100000 in
theorem rall_any (w : World) (p : Value) (m : List Blk) (S : Nat → Prop) (h : RefAt w p m S) :
    Calls Try.prog 54 #[p] w fun e w' => ∃ v V, e = .returned v ∧ RowsIn w' v V m.length (fun i => (blk m i).b) ∧ Ext w w' := by
  obtain ⟨px, lb, ly, V, Y, rfl, hin, _⟩ := h.ex
  clear h
  have c00 := hin.c0
  have l0 := hin.rb.sl.run_len (P := Try.prog) IBB.und 3
  have hcnt := hin.ok.cnt
  go_enter Try.func54, Try.ntmps54
  go_wp2
  go_loopw [3, 4] (fun s3 s4 wr => ∃ k V', k ≤ m.length ∧ s4 = .int .i64 (k : Int) ∧ RowsIn wr s3 V' k (fun i => (blk m i).b) ∧ Ext w wr ∧ ∀ q, s3.ownBlock = some q → w.heap.size ≤ q) (fun _ i _ => m.length - (intOf i).toNat)
  case atStart => exact ⟨0, V, Nat.zero_le _, rfl, RowsIn.nil _ _ _, Mod.refl _ _, fun q hq => by cases hq⟩
  case round =>
    obtain ⟨k, V', hk, rfl, hr, x, hf⟩ := hrel
    have c0 := x.cell c00
    by_cases hlt : k < m.length
    · have hlt' : (k : Int) < (m.length : Int) := by omega
      have i0 := hin.rb.sl.run_idx (P := Try.prog) IBB.und IBB.size .i64 k hlt
      simp only [Nat.mul_one] at i0
      have c1 := x.cell (hin.cV hlt)
      have b1 := (hin.bs k hlt).ext x
      have htop := hin.ok.top k hlt
      have H := Lib.hid (And.intro hin (And.intro hr (And.intro x (And.intro b1 hf))))
      clear hin hr x b1 hf
      go_wp2_with fail
      refine (copy_bytes _ _ (blk m k).b H.out.2.2.2.1.sl (by omega)).mono ?_
      rintro e w1 ⟨v1, rfl, o1, x1, f1⟩
      rw [List.length_map] at o1
      obtain ⟨la, lc, hv1, _⟩ := o1.sl.shape
      subst hv1
      have XW : Ext wr w1 := x1
      have hr1 := H.out.2.1.ext XW
      have one1 : ∀ x ∈ [Value.slice la (blk m k).b.length lc], x.oneCell' = true := by intro x hx; simp at hx; subst hx; rfl
      have O := Lib.hid (And.intro o1 (And.intro XW f1))
      clear o1 x1 f1 XW
      go_wp2_with (at_builtin; refine wpList_app IBB rfl (.tmp 14) (.tmp 23) rfl (hr1.row.ext (Mod.alloc (Mod.refl _ _) _)) (built_sl (n := 1) (g := w1.heap.size) (e := 27) (cs := #[Value.slice la (blk m k).b.length lc]) (by simp only [heap_alloc_if, if_true]) rfl (by simp only [maxLen]; omega)) one1 (by simp [Act.eval]) (by simp [Act.eval]) (by omega) (by simp only [maxLen]; omega) ?_; intro lv' w2 ol2 gr2 fr2 nn2; have HH := Lib.hid (And.intro ol2 (And.intro gr2 fr2)); clear ol2 gr2 fr2 nn2)
      go_roundw
      case rel =>
        obtain ⟨ol2, gr2, fr2⟩ := HH.out
        have M2 : Mod (fun q => u3.ownBlock = some q) w1 w2 := Mod.grown (Mod.alloc (Mod.refl _ _) _) gr2 (fun q h => .inl h)
        refine ⟨k + 1, _, by omega, by go_num, hr1.push M2 ol2 O.out.1, (H.out.2.2.1.trans O.out.2.1).trans' M2 (fun q hq => .inr (H.out.2.2.2.2 q hq)), fun q hq => ?_⟩
        rcases fr2 q hq with h | h
        · exact H.out.2.2.2.2 q h
        · simp only [World.size_alloc] at h
          have := O.out.2.1.size
          have := H.out.2.2.1.size
          omega
      case measure => simp [intOf]; omega
    · have hlt' : ¬ (k : Int) < (m.length : Int) := by omega
      obtain rfl : k = m.length := by omega
      go_wp2
      go_ret
      exact ⟨_, rfl, ⟨_, hr⟩, x⟩
end Go.Proofs.Ytnnciakdeoopaaa
