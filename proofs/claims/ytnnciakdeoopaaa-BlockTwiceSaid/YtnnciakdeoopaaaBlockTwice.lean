/-
  BlockTwice: the plain law and the walk of renlaw18.BlockTwice. No condition.
-/
import Derived.Test.YtnnciakdeoopaaaBlkFirst
import Derived.Test.YtnnciakdeoopaaaBlockKeepsLaw
namespace Go.Ren
set_option linter.unusedVariables false

theorem splice_self {α : Type} (L cs : List α) (off : Nat) (h : off + cs.length ≤ L.length) : cut (splice L off cs) off cs.length = cs := by
  apply List.ext_getElem?
  intro j
  by_cases hj : j < cs.length
  · simp only [cut, List.getElem?_take, if_pos hj, List.getElem?_drop]
    rw [splice_get L off cs h, if_pos (by omega)]; congr 1; omega
  · simp only [cut, List.getElem?_take, if_neg hj]
    rw [List.getElem?_eq_none (by omega)]
theorem splice_swap {α : Type} (L cs ds : List α) (o p : Nat) (h1 : o + cs.length ≤ L.length) (h2 : p + ds.length ≤ L.length) (ha : p + ds.length ≤ o ∨ o + cs.length ≤ p) :
    splice (splice L o cs) p ds = splice (splice L p ds) o cs := by
  have l1 := length_splice L o cs h1
  have l2 := length_splice L p ds h2
  apply List.ext_getElem?
  intro j
  rw [splice_get (splice L o cs) p ds (by omega), splice_get (splice L p ds) o cs (by omega), splice_get L o cs h1, splice_get L p ds h2]
  by_cases a : p ≤ j ∧ j < p + ds.length <;> by_cases b : o ≤ j ∧ j < o + cs.length <;> simp [a, b] <;> omega

theorem make64 : bmake [] 64 = [newBlk 64] := by simp [bmake, bmakeE]
theorem bwrite_one {B : Blk} {a : Int} {x : List UInt8} {y : Int} (h : bcheck [B] 0 a x.length = 0) : bwrite [B] 0 a x y = [wBlk B a.toNat x y] := by unfold bwrite; rw [if_pos h]; rfl
theorem bcheck_one {B : Blk} {a : Int} {n : Nat} (h : bcheck [B] 0 a n = 0) : 0 ≤ a ∧ a + n ≤ (B.b.length : Int) := by
  have := bcheck_0 h
  have e : (blk [B] (0 : Int).toNat) = B := rfl
  rw [e] at this; exact ⟨this.2.2.1, this.2.2.2.2.1⟩
theorem bcheck_to {B : Blk} {a : Int} {n : Nat} (h : 0 ≤ a ∧ a + n ≤ (B.b.length : Int)) : bcheck [B] 0 a n = 0 := by
  have e : (blk [B] (0 : Int).toNat) = B := rfl
  have hs : bsize [B] 0 = (B.b.length : Int) := by unfold bsize; rw [e]; simp
  unfold bcheck; rw [hs, if_neg (by omega), if_neg (by omega)]

theorem twice_plain {a t : Int} {b c : List UInt8} (he : bcheck [newBlk 64] 0 a b.length = 0) (hf : bcheck (bwrite [newBlk 64] 0 a b 1) 0 t c.length = 0) :
    ∃ K L, bwrite (bwrite [newBlk 64] 0 a b 1) 0 t c 2 = [K] ∧ bwrite (bwrite [newBlk 64] 0 t c 2) 0 a b 1 = [L] ∧ K.b.length = 64 ∧ K.y.length = 64 ∧ L.b.length = 64 ∧ L.y.length = 64 ∧
      breadB [K] 0 t c.length = c ∧ (t + c.length ≤ a ∨ a + b.length ≤ t → K = L) ∧ 0 ≤ a ∧ a ≤ 64 ∧ 0 ≤ t ∧ t ≤ 64 := by
  have h1 := bcheck_one he
  have e1 := bwrite_one (y := 1) he
  rw [e1] at hf
  have h2 := bcheck_one hf
  have e2 := bwrite_one (y := 2) hf
  have z : (newBlk 64).b.length = 64 := by simp [newBlk]
  have zy : (newBlk 64).y.length = 64 := by simp [newBlk]
  rw [z] at h1
  have z1 : (wBlk (newBlk 64) a.toNat b 1).b.length = 64 := by rw [wBlk_b (by omega), z]
  have zy1 : (wBlk (newBlk 64) a.toNat b 1).y.length = 64 := by rw [wBlk_y (by omega), zy]
  rw [z1] at h2
  have hf' : bcheck [newBlk 64] 0 t c.length = 0 := bcheck_to (by omega)
  have e3 := bwrite_one (y := 2) hf'
  have z2 : (wBlk (newBlk 64) t.toNat c 2).b.length = 64 := by rw [wBlk_b (by omega), z]
  have zy2 : (wBlk (newBlk 64) t.toNat c 2).y.length = 64 := by rw [wBlk_y (by omega), zy]
  have he' : bcheck [wBlk (newBlk 64) t.toNat c 2] 0 a b.length = 0 := bcheck_to (by omega)
  have e4 := bwrite_one (y := 1) he'
  rw [e1, e2, e3, e4]
  have z3 : (wBlk (wBlk (newBlk 64) a.toNat b 1) t.toNat c 2).b.length = 64 := by rw [wBlk_b (by omega), z1]
  refine ⟨_, _, rfl, rfl, z3, ?_, ?_, ?_, ?_, ?_, by omega, by omega, by omega, by omega⟩
  · rw [wBlk_y (by omega), zy1]
  · rw [wBlk_b (by omega), z2]
  · rw [wBlk_y (by omega), zy2]
  · unfold breadB
    rw [if_pos (bcheck_to (by omega))]
    show cut (splice _ _ _) _ _ = _
    rw [show (c.length : Int).toNat = c.length from Int.toNat_natCast _]
    exact splice_self _ _ _ (by omega)
  · intro hap
    have q1 : splice (splice (newBlk 64).b a.toNat b) t.toNat c = splice (splice (newBlk 64).b t.toNat c) a.toNat b := splice_swap _ _ _ _ _ (by omega) (by omega) (by omega)
    have q2 : splice (splice (newBlk 64).y a.toNat (List.replicate b.length 1)) t.toNat (List.replicate c.length 2) = splice (splice (newBlk 64).y t.toNat (List.replicate c.length 2)) a.toNat (List.replicate b.length (1 : Int)) :=
      splice_swap _ _ _ _ _ (by simp; omega) (by simp; omega) (by simp; omega)
    simp only [wBlk]
    rw [q1, q2]
end Go.Ren

namespace Go.Proofs.Ytnnciakdeoopaaa
open Go.Ren Go.RowKit
set_option linter.unusedVariables false

set_option maxRecDepth 100000 in
set_option maxHeartbeats 1600000 in
theorem twice_all (a t : Int) (vb vc : Value) (b c : List UInt8) (w : World) (hb : BytesAt w vb b) (hc : BytesAt w vc c) :
    Calls Try.prog 5 #[.int .i64 a, .int .i64 t, vb, vc] w fun e w' => e = .returned (.bool true) ∧ Ext w w' := by
  have lb := Sl.run_len (P := Try.prog) hb IB.und 3
  have lc := Sl.run_len (P := Try.prog) hc IB.und 3
  obtain ⟨m4, e4⟩ : ∃ m, m = bmake [] 64 := ⟨_, rfl⟩
  obtain ⟨m6, e6⟩ : ∃ m, m = bwrite m4 0 a b 1 := ⟨_, rfl⟩
  obtain ⟨m7, e7⟩ : ∃ m, m = bwrite m6 0 t c 2 := ⟨_, rfl⟩
  obtain ⟨n8, e8⟩ : ∃ m, m = bwrite m4 0 t c 2 := ⟨_, rfl⟩
  obtain ⟨n9, e9⟩ : ∃ m, m = bwrite n8 0 a b 1 := ⟨_, rfl⟩
  have E4 := Lib.hid e4; have E6 := Lib.hid e6; have E7 := Lib.hid e7; have E8 := Lib.hid e8; have E9 := Lib.hid e9; clear e4 e6 e7 e8 e9
  go_enter Try.func5, Try.ntmps5
  go_wp2_with fail
  refine (first18_any _).mono ?_
  rintro e w1 ⟨rfl, x1⟩
  go_wp2_with fail
  refine (new_any _).mono ?_
  rintro e w2 ⟨pm, S2, rfl, M2, x2, f2⟩
  have X2 := x1.trans x2
  go_wp2_with fail
  refine (new_any _).mono ?_
  rintro e w3 ⟨pn, T3, rfl, N3, x3, f3⟩
  have X3 := X2.trans x3
  have M3 := M2.ext x3
  have g2 : ∀ k, S2 k → w.heap.size ≤ k := fun k h => Nat.le_trans x1.size (f2 k h)
  have t3 : ∀ k, T3 k → w.heap.size ≤ k := fun k h => Nat.le_trans X2.size (f3 k h)
  have d3 : ∀ k, T3 k → ¬ S2 k := fun k h h' => by have := f3 k h; have := M2.lt h'; omega
  go_wp2_with fail
  all_goals try (go_at_call 18; refine (first18_any _).mono ?_; rintro e w4 ⟨rfl, x4⟩; go_wp2_with fail; go_ret; exact ⟨rfl, X3.trans x4⟩)
  refine (make_any _ _ _ _ M3 _).mono ?_
  rintro e w4 ⟨rfl, S4, M4, x4, f4⟩
  rw [← E4.out] at M4
  have X4 := X3.trans' x4 (fun k h => .inr (g2 k h))
  have N4 := N3.mod x4 d3
  have g4 : ∀ k, S4 k → w.heap.size ≤ k := fun k h => (f4 k h).elim (g2 k) (fun h => Nat.le_trans X3.size h)
  have d4 : ∀ k, T3 k → ¬ S4 k := fun k h h' => (f4 k h').elim (d3 k h) (fun h' => by have := N3.lt h; omega)
  go_wp2_with fail
  refine (make_any _ _ _ _ N4 _).mono ?_
  rintro e w5 ⟨rfl, T5, N5, x5, f5⟩
  rw [← E4.out] at N5
  have X5 := X4.trans' x5 (fun k h => .inr (t3 k h))
  have M5 := M4.mod x5 (fun k h h' => d4 k h' h)
  have t5 : ∀ k, T5 k → w.heap.size ≤ k := fun k h => (f5 k h).elim (t3 k) (fun h => Nat.le_trans X4.size h)
  have d5 : ∀ k, T5 k → ¬ S4 k := fun k h h' => (f5 k h).elim (fun h => d4 k h h') (fun h => by have := M4.lt h'; omega)
  go_wp2_with fail
  refine (write_any _ _ _ _ M5 _ _ _ b (hb.ext X5) (by omega) _ ⟨by decide, by decide⟩).mono ?_
  rintro e w6 ⟨rfl, M6, x6⟩
  rw [← E6.out] at M6
  have X6 := X5.trans' x6 (fun k h => .inr (g4 k h))
  have N6 := N5.mod x6 d5
  go_wp2_with fail
  refine (write_any _ _ _ _ M6 _ _ _ c (hc.ext X6) (by omega) _ ⟨by decide, by decide⟩).mono ?_
  rintro e w7 ⟨rfl, M7, x7⟩
  rw [← E7.out] at M7
  have X7 := X6.trans' x7 (fun k h => .inr (g4 k h))
  have N7 := N6.mod x7 d5
  go_wp2_with fail
  refine (write_any _ _ _ _ N7 _ _ _ c (hc.ext X7) (by omega) _ ⟨by decide, by decide⟩).mono ?_
  rintro e w8 ⟨rfl, N8, x8⟩
  rw [← E8.out] at N8
  have X8 := X7.trans' x8 (fun k h => .inr (t5 k h))
  have M8 := M7.mod x8 (fun k h h' => d5 k h' h)
  go_wp2_with fail
  refine (write_any _ _ _ _ N8 _ _ _ b (hb.ext X8) (by omega) _ ⟨by decide, by decide⟩).mono ?_
  rintro e w9 ⟨rfl, N9, x9⟩
  rw [← E9.out] at N9
  have X9 := X8.trans' x9 (fun k h => .inr (t5 k h))
  have M9 := M8.mod x9 (fun k h h' => d5 k h' h)
  by_cases he : bcheck m4 0 a b.length = 0
  case neg =>
    have he' : (bcheck m4 0 a b.length != 0) = true := bne_iff_ne.2 he
    clear he
    go_wp2_with fail
    refine (first18_any _).mono ?_
    rintro e w10 ⟨rfl, x10⟩
    go_wp2_with fail
    go_ret
    exact ⟨rfl, X9.trans x10⟩
  by_cases hf : bcheck m6 0 t c.length = 0
  case neg =>
    have he' : (bcheck m4 0 a b.length != 0) = false := bne_eq_false_iff_eq.2 he
    have hf' : (bcheck m6 0 t c.length != 0) = true := bne_iff_ne.2 hf
    clear he hf
    go_wp2_with fail
    refine (first18_any _).mono ?_
    rintro e w10 ⟨rfl, x10⟩
    go_wp2_with fail
    go_ret
    exact ⟨rfl, X9.trans x10⟩
  obtain ⟨K, L, hm, hn, kb, ky, lb', ly', hz, hap, a0, a64, t0, t64⟩ := twice_plain (a := a) (t := t) (b := b) (c := c) (by rw [← make64, ← E4.out]; exact he) (by rw [← make64, ← E4.out, ← E6.out]; exact hf)
  rw [← make64, ← E4.out, ← E6.out, ← E7.out] at hm
  rw [← make64, ← E4.out, ← E8.out, ← E9.out] at hn
  have he' : (bcheck m4 0 a b.length != 0) = false := bne_eq_false_iff_eq.2 he
  have hf' : (bcheck m6 0 t c.length != 0) = false := bne_eq_false_iff_eq.2 hf
  have hlb : b.length ≤ 20000 := by omega
  have hlc : c.length ≤ 20000 := by omega
  have wr1 : IntKind.i64.wrap (t + c.length) = t + c.length := IntWalk.i64_in _ (by omega)
  have wr2 : IntKind.i64.wrap (a + b.length) = a + b.length := IntWalk.i64_in _ (by omega)
  obtain ⟨r1, r2, r3⟩ : bcheck m7 0 0 (64 : Nat) = 0 ∧ breadB m7 0 0 (64 : Nat) = K.b ∧ breadY m7 0 0 (64 : Nat) = K.y := by rw [hm]; exact bread_all (m := [K]) (k := 0) (by simp) 64 (by simp [blk, kb]) (by simp [blk, kb, ky])
  obtain ⟨s1, s2, s3⟩ : bcheck n9 0 0 (64 : Nat) = 0 ∧ breadB n9 0 0 (64 : Nat) = L.b ∧ breadY n9 0 0 (64 : Nat) = L.y := by rw [hn]; exact bread_all (m := [L]) (k := 0) (by simp) 64 (by simp [blk, lb']) (by simp [blk, lb', ly'])
  have u1 : breadB m7 0 t c.length = c := by rw [hm]; exact hz
  have IY : ∀ x ∈ K.y, I64 x := by
    obtain ⟨pb, lv, V, Y, _, hin, _⟩ := M9.ex
    have := hin.ok.ok 0 (by rw [hm]; simp)
    rw [hm] at this
    exact this
  have RR := Lib.hid (And.intro r2 (And.intro r3 (And.intro s2 (And.intro s3 u1))))
  have HAP := Lib.hid hap
  clear he hf hap r1 r2 r3 s1 s2 s3 u1 hz hm hn kb ky lb' ly' x1 x2 x3 x4 x5 x6 x7 x8 x9 X2 X3 X4 X5 X6 X7 X8 M2 M3 M4 M5 M6 M7 M8 N3 N4 N5 N6 N7 N8 f2 f3 f4 f5 g2 g4 t3 t5 d3 d4 d5
  have M := Lib.hid M9; have N := Lib.hid N9; have X := Lib.hid X9; have HB := Lib.hid hb; have HC := Lib.hid hc
  clear M9 N9 X9 hb hc
  rcases (by omega : (t + c.length ≤ a) ∨ (a < t + c.length ∧ a + b.length ≤ t) ∨ (a < t + c.length ∧ t < a + b.length)) with c1 | c1 | c1
  · have K1 : K = L := HAP.out (.inl c1)
    go_wp2_with fail
    refine (read_any _ _ _ _ M.out _ _ _).mono ?_
    rintro e w10 ⟨v10, y10, rfl, ov10, oy10, x10, fv10, fy10⟩
    rw [show (64 : Int) = ((64 : Nat) : Int) from rfl, RR.out.1] at ov10; rw [show (64 : Int) = ((64 : Nat) : Int) from rfl, RR.out.2.1] at oy10
    have P10 := X.out.trans x10
    have N10 := N.out.ext x10; have M10 := M.out.ext x10
    go_wp2_with fail
    refine (read_any _ _ _ _ N10 _ _ _).mono ?_
    rintro e w11 ⟨v11, y11, rfl, ov11, oy11, x11, fv11, fy11⟩
    rw [show (64 : Int) = ((64 : Nat) : Int) from rfl, RR.out.2.2.1] at ov11; rw [show (64 : Int) = ((64 : Nat) : Int) from rfl, RR.out.2.2.2.1] at oy11
    have P11 := P10.trans x11
    have M11 := M10.ext x11
    go_wp2_with fail
    refine (read_any _ _ _ _ M11 _ _ _).mono ?_
    rintro e w12 ⟨v12, y12, rfl, ov12, oy12, x12, fv12, fy12⟩
    rw [RR.out.2.2.2.2] at ov12
    have P12 := P11.trans x12
    go_wp2_with fail
    refine (first18_any _).mono ?_
    rintro e w13 ⟨rfl, x13⟩
    have P13 := P12.trans x13
    go_wp2_with fail
    refine (bytes_any _ _ _ c c (show BytesAt w13 v12 c from (ov12.ext x13).sl) (HC.out.ext P13)).mono ?_
    rintro e w14 ⟨rfl, rfl⟩
    rw [beq_self_eq_true]
    go_wp2_with fail
    subst K1
    refine (bytes_any _ _ _ K.b K.b (show BytesAt w13 v10 K.b from (((ov10.ext x11).ext x12).ext x13).sl) (show BytesAt w13 v11 K.b from ((ov11.ext x12).ext x13).sl)).mono ?_
    rintro e w14 ⟨rfl, rfl⟩
    rw [beq_self_eq_true]
    go_wp2_with fail
    refine (ints_any _ _ _ K.y K.y ⟨(((oy10.ext x11).ext x12).ext x13).sl, IY⟩ ⟨((oy11.ext x12).ext x13).sl, IY⟩).mono ?_
    rintro e w14 ⟨rfl, n, rfl⟩
    rw [beq_self_eq_true]
    go_wp2_with fail
    go_ret
    exact ⟨rfl, P13.drewN n⟩
  · obtain ⟨c1, c2⟩ := c1
    have K1 : K = L := HAP.out (.inr c2)
    go_wp2_with fail
    refine (read_any _ _ _ _ M.out _ _ _).mono ?_
    rintro e w10 ⟨v10, y10, rfl, ov10, oy10, x10, fv10, fy10⟩
    rw [show (64 : Int) = ((64 : Nat) : Int) from rfl, RR.out.1] at ov10; rw [show (64 : Int) = ((64 : Nat) : Int) from rfl, RR.out.2.1] at oy10
    have P10 := X.out.trans x10
    have N10 := N.out.ext x10; have M10 := M.out.ext x10
    go_wp2_with fail
    refine (read_any _ _ _ _ N10 _ _ _).mono ?_
    rintro e w11 ⟨v11, y11, rfl, ov11, oy11, x11, fv11, fy11⟩
    rw [show (64 : Int) = ((64 : Nat) : Int) from rfl, RR.out.2.2.1] at ov11; rw [show (64 : Int) = ((64 : Nat) : Int) from rfl, RR.out.2.2.2.1] at oy11
    have P11 := P10.trans x11
    have M11 := M10.ext x11
    go_wp2_with fail
    refine (read_any _ _ _ _ M11 _ _ _).mono ?_
    rintro e w12 ⟨v12, y12, rfl, ov12, oy12, x12, fv12, fy12⟩
    rw [RR.out.2.2.2.2] at ov12
    have P12 := P11.trans x12
    go_wp2_with fail
    refine (first18_any _).mono ?_
    rintro e w13 ⟨rfl, x13⟩
    have P13 := P12.trans x13
    go_wp2_with fail
    refine (bytes_any _ _ _ c c (show BytesAt w13 v12 c from (ov12.ext x13).sl) (HC.out.ext P13)).mono ?_
    rintro e w14 ⟨rfl, rfl⟩
    rw [beq_self_eq_true]
    go_wp2_with fail
    subst K1
    refine (bytes_any _ _ _ K.b K.b (show BytesAt w13 v10 K.b from (((ov10.ext x11).ext x12).ext x13).sl) (show BytesAt w13 v11 K.b from ((ov11.ext x12).ext x13).sl)).mono ?_
    rintro e w14 ⟨rfl, rfl⟩
    rw [beq_self_eq_true]
    go_wp2_with fail
    refine (ints_any _ _ _ K.y K.y ⟨(((oy10.ext x11).ext x12).ext x13).sl, IY⟩ ⟨((oy11.ext x12).ext x13).sl, IY⟩).mono ?_
    rintro e w14 ⟨rfl, n, rfl⟩
    rw [beq_self_eq_true]
    go_wp2_with fail
    go_ret
    exact ⟨rfl, P13.drewN n⟩
  · obtain ⟨c1, c2⟩ := c1
    go_wp2_with fail
    refine (read_any _ _ _ _ M.out _ _ _).mono ?_
    rintro e w10 ⟨v10, y10, rfl, ov10, oy10, x10, fv10, fy10⟩
    rw [show (64 : Int) = ((64 : Nat) : Int) from rfl, RR.out.1] at ov10; rw [show (64 : Int) = ((64 : Nat) : Int) from rfl, RR.out.2.1] at oy10
    have P10 := X.out.trans x10
    have N10 := N.out.ext x10; have M10 := M.out.ext x10
    go_wp2_with fail
    refine (read_any _ _ _ _ N10 _ _ _).mono ?_
    rintro e w11 ⟨v11, y11, rfl, ov11, oy11, x11, fv11, fy11⟩
    rw [show (64 : Int) = ((64 : Nat) : Int) from rfl, RR.out.2.2.1] at ov11; rw [show (64 : Int) = ((64 : Nat) : Int) from rfl, RR.out.2.2.2.1] at oy11
    have P11 := P10.trans x11
    have M11 := M10.ext x11
    go_wp2_with fail
    refine (read_any _ _ _ _ M11 _ _ _).mono ?_
    rintro e w12 ⟨v12, y12, rfl, ov12, oy12, x12, fv12, fy12⟩
    rw [RR.out.2.2.2.2] at ov12
    have P12 := P11.trans x12
    go_wp2_with fail
    refine (first18_any _).mono ?_
    rintro e w13 ⟨rfl, x13⟩
    have P13 := P12.trans x13
    go_wp2_with fail
    refine (bytes_any _ _ _ c c (show BytesAt w13 v12 c from (ov12.ext x13).sl) (HC.out.ext P13)).mono ?_
    rintro e w14 ⟨rfl, rfl⟩
    rw [beq_self_eq_true]
    go_wp2_with fail
    go_ret
    exact ⟨rfl, P13⟩
end Go.Proofs.Ytnnciakdeoopaaa
