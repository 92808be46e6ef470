/-
  BlockKeeps: the walk of the law renlaw18.BlockKeeps. No condition.
-/
import Derived.Test.YtnnciakdeoopaaaBlkFirst
import Derived.Test.YtnnciakdeoopaaaBlockKeepsLaw
namespace Go.Proofs.Ytnnciakdeoopaaa
open Go.Ren Go.RowKit
set_option linter.unusedVariables false

theorem ow_cell {w : World} {e : TypeId} {v : Value} {l : List Int} (h : Own w e 1 v l.length (l.map iv)) {k : Nat} (hk : k < l.length) : w.cell? (at_ v k) = some (.int .i64 l[k]) :=
  h.sl.cell k _ (by simp [hk, iv])

set_option maxRecDepth 100000 in
set_option maxHeartbeats 1600000 in
theorem keeps_all (size other a : Int) (vb vc : Value) (b c : List UInt8) (by_ cy : Int) (w : World) (hb : BytesAt w vb b) (hc : BytesAt w vc c) (hby : I64 by_) (hcy : I64 cy) :
    Calls Try.prog 4 #[.int .i64 size, .int .i64 other, .int .i64 a, vb, vc, .int .i64 by_, .int .i64 cy] w fun e w' => e = .returned (.bool true) ∧ Ext w w' := by
  have lb := Sl.run_len (P := Try.prog) hb IB.und 3
  have lc := Sl.run_len (P := Try.prog) hc IB.und 3
  obtain ⟨m1, e1⟩ : ∃ m, m = bmake [] size := ⟨_, rfl⟩
  obtain ⟨m2, e2⟩ : ∃ m, m = bmake m1 other := ⟨_, rfl⟩
  obtain ⟨m3, e3⟩ : ∃ m, m = bwrite m2 0 0 c cy := ⟨_, rfl⟩
  obtain ⟨m4, e4⟩ : ∃ m, m = bwrite m3 1 0 c cy := ⟨_, rfl⟩
  obtain ⟨m5, e5⟩ : ∃ m, m = bwrite m4 0 a b by_ := ⟨_, rfl⟩
  have E1 := Lib.hid e1; have E2 := Lib.hid e2; have E3 := Lib.hid e3; have E4 := Lib.hid e4; have E5 := Lib.hid e5; clear e1 e2 e3 e4 e5
  go_enter Try.func4, Try.ntmps4
  go_wp2_with fail
  refine (first18_any _).mono ?_
  rintro e w1 ⟨rfl, x1⟩
  go_wp2_with fail
  refine (new_any _).mono ?_
  rintro e w2 ⟨pb, S2, rfl, B2, x2, f2⟩
  have X2 := x1.trans x2
  have g2 : ∀ k, S2 k → NoF k ∨ w.heap.size ≤ k := fun k h => .inr (Nat.le_trans x1.size (f2 k h))
  go_wp2_with fail
  all_goals try (go_at_call 18; refine (first18_any _).mono ?_; rintro e w3 ⟨rfl, x3⟩; go_wp2_with fail; go_ret; exact ⟨rfl, X2.trans x3⟩)
  refine (make_any _ _ _ _ B2 _).mono ?_
  rintro e w3 ⟨rfl, S3, B3, x3, f3⟩
  rw [← E1.out] at B3
  go_wp2_with fail
  refine (make_any _ _ _ _ B3 _).mono ?_
  rintro e w4 ⟨rfl, S4, B4, x4, f4⟩
  rw [← E2.out] at B4
  have g3 : ∀ k, S3 k → NoF k ∨ w.heap.size ≤ k := fun k h => (f3 k h).elim (g2 k) (fun h => .inr (Nat.le_trans X2.size h))
  have X3 := X2.trans' x3 g2
  have g4 : ∀ k, S4 k → NoF k ∨ w.heap.size ≤ k := fun k h => (f4 k h).elim (g3 k) (fun h => .inr (Nat.le_trans X3.size h))
  have X4 := X3.trans' x4 g3
  go_wp2_with fail
  all_goals try (go_at_call 18; refine (first18_any _).mono ?_; rintro e w5 ⟨rfl, x5⟩; go_wp2_with fail; go_ret; exact ⟨rfl, X4.trans x5⟩)
  refine (write_any _ _ _ _ B4 _ _ _ c (hc.ext X4) (by omega) _ hcy).mono ?_
  rintro e w5 ⟨rfl, B5, x5⟩
  rw [← E3.out] at B5
  have X5 := X4.trans' x5 g4
  go_wp2_with fail
  all_goals try (go_at_call 18; refine (first18_any _).mono ?_; rintro e w6 ⟨rfl, x6⟩; go_wp2_with fail; go_ret; exact ⟨rfl, X5.trans x6⟩)
  refine (write_any _ _ _ _ B5 _ _ _ c (hc.ext X5) (by omega) _ hcy).mono ?_
  rintro e w6 ⟨rfl, B6, x6⟩
  rw [← E4.out] at B6
  have X6 := X5.trans' x6 g4
  go_wp2_with fail
  all_goals try (go_at_call 18; refine (first18_any _).mono ?_; rintro e w7 ⟨rfl, x7⟩; go_wp2_with fail; go_ret; exact ⟨rfl, X6.trans x7⟩)
  have hlc : c.length ≤ 20000 := by omega
  have hlb : b.length ≤ 20000 := by omega
  obtain ⟨z, K0, K1, rfl, hm4, kb, ky, kc, kl, kcut, hz⟩ := keeps_two (size := size) (other := other) (c := c) (cy := cy) (by assumption) (by rw [← E1.out]; exact bne_eq_false_iff_eq.1 (by assumption)) (by rw [← E1.out, ← E2.out]; assumption) (by rw [← E1.out, ← E2.out, ← E3.out]; exact bne_eq_false_iff_eq.1 (by assumption))
  rw [← E1.out, ← E2.out, ← E3.out, ← E4.out] at hm4
  have HM4 := Lib.hid hm4
  obtain ⟨N0, hm5, nb, ny, nin, nout⟩ := keeps_write (K1 := K1) kb ky a b by_
  rw [← hm4, ← E5.out] at hm5
  rw [← hm4] at nin nout
  obtain ⟨r1, r2, r3⟩ : bcheck m4 0 0 z = 0 ∧ breadB m4 0 0 z = K0.b ∧ breadY m4 0 0 z = K0.y := by rw [hm4]; exact bread_all (m := [K0, K1]) (k := 0) (by simp) z (by simp [blk, kb]) (by simp [blk, kb, ky])
  obtain ⟨s1, s2, s3⟩ : bcheck m5 0 0 z = 0 ∧ breadB m5 0 0 z = N0.b ∧ breadY m5 0 0 z = N0.y := by rw [hm5]; exact bread_all (m := [N0, K1]) (k := 0) (by simp) z (by simp [blk, nb]) (by simp [blk, nb, ny])
  have u1 : bcheck m5 1 0 c.length = 0 := by
    have hs : bsize m5 1 = (K1.b.length : Int) := by rw [hm5]; unfold bsize; simp [blk]
    unfold bcheck; rw [hs, if_neg (by omega), if_neg (by omega)]
  have eb1 : (blk m5 (1 : Int).toNat) = K1 := by rw [hm5]; rfl
  have u2 : breadB m5 1 0 c.length = c := by unfold breadB; rw [if_pos u1, eb1]; exact kcut
  have u3 : (breadY m5 1 0 c.length).length = c.length := by unfold breadY; rw [if_pos u1, eb1]; exact cut_len (by simp; omega)
  have HF := Lib.hid (And.intro u2 (And.intro u3 (And.intro nb (And.intro ny (And.intro kb ky)))))
  have nb' := nb; have ny' := ny; have kb' := kb; have ky' := ky
  clear hm4 hm5 eb1 u2 u3 kb ky nb ny kc kl kcut
  refine (read_any _ _ _ _ B6 _ _ _).mono ?_
  rintro e w7 ⟨v7, y7, rfl, ov7, oy7, x7, fv7, fy7⟩
  rw [r2] at ov7; rw [r3] at oy7
  have X7 := X6.trans x7
  go_wp2_with fail
  refine (write_any _ _ _ _ (B6.ext x7) _ _ _ b (hb.ext X7) (by omega) _ hby).mono ?_
  rintro e w8 ⟨rfl, B8, x8⟩
  rw [← E5.out] at B8
  have X8 := X7.trans' x8 g4
  have s4 : ∀ k, S4 k → k < w6.heap.size := fun k h => B6.lt h
  have ov8 := ov7.mod x8 (fun k hk h => by have := fv7 k hk; have := s4 k h; omega)
  have oy8 := oy7.mod x8 (fun k hk h => by have := fy7 k hk; have := s4 k h; omega)
  go_wp2_with fail
  refine (read_any _ _ _ _ B8 _ _ _).mono ?_
  rintro e w9 ⟨v9, y9, rfl, ov9, oy9, x9, fv9, fy9⟩
  rw [s2] at ov9; rw [s3] at oy9
  go_wp2_with fail
  refine (read_any _ _ _ _ (B8.ext x9) _ _ _).mono ?_
  rintro e w10 ⟨v10, y10, rfl, ov10, oy10, x10, fv10, fy10⟩
  rw [HF.out.1] at ov10
  have X10 := (X8.trans x9).trans x10
  have l10 := oy10.sl.run_len (P := Try.prog) II.und 3
  have lv7 := ov7.sl.run_len (P := Try.prog) IB.und 3
  have ly7 := oy7.sl.run_len (P := Try.prog) II.und 3
  have lv9 := ov9.sl.run_len (P := Try.prog) IB.und 3
  have ly9 := oy9.sl.run_len (P := Try.prog) II.und 3
  rw [HF.out.2.1] at l10
  rw [HF.out.2.2.1] at lv9
  rw [HF.out.2.2.2.1] at ly9
  rw [HF.out.2.2.2.2.1] at lv7
  rw [HF.out.2.2.2.2.2] at ly7
  go_wp2_with fail
  refine (bytes_any _ _ _ c c (show BytesAt w10 v10 c from ov10.sl) (hc.ext X10)).mono ?_
  rintro e w11 ⟨rfl, rfl⟩
  rw [beq_self_eq_true]
  go_wp2_with fail
  have ow9 := ov9.ext x10
  have oz9 := oy9.ext x10
  have ow8 := (ov8.ext x9).ext x10
  have oz8 := (oy8.ext x9).ext x10
  have HL := Lib.hid (And.intro nb' (And.intro ny' (And.intro kb' ky')))
  have NIN := Lib.hid nin; have NOUT := Lib.hid nout
  have XX := Lib.hid X10
  clear ov9 oy9 ov8 oy8 ov7 oy7 ov10 oy10 x1 x2 x3 x4 x5 x6 x7 x8 x9 x10 X2 X3 X4 X5 X6 X7 X8 X10 B2 B3 B4 B5 B6 B8 f2 f3 f4 g2 g3 g4 fv7 fy7 fv9 fy9 fv10 fy10 nin nout r1 r2 r3 s1 s2 s3 s4 u1 lv7 ly7 lv9 ly9 l10 nb' ny' kb' ky' lc
  go_loopw [30] (fun s30 wr => ∃ k : Nat, k ≤ z ∧ s30 = .int .i64 k ∧ ∃ n, wr = w10.drewN n) (fun i _ => z - (intOf i).toNat)
  case atStart => exact ⟨0, Nat.zero_le _, rfl, 0, rfl⟩
  case round =>
    obtain ⟨k, hk, rfl, n, rfl⟩ := hrel
    by_cases hlt : k < z
    · have hlt' : (k : Int) < (z : Int) := by omega
      have hn1 : k < N0.b.length := by have := HL.out.1; omega
      have hn2 : k < N0.y.length := by have := HL.out.2.1; omega
      have hk1 : k < K0.b.length := by have := HL.out.2.2.1; omega
      have hk2 : k < K0.y.length := by have := HL.out.2.2.2; omega
      have c1 : w10.cell? (at_ v9 k) = some (.int .u8 (N0.b[k].toNat : Int)) := BytesAt.cell (show BytesAt w10 v9 N0.b from ow9.sl) hn1
      have c2 : w10.cell? (at_ y9 k) = some (.int .i64 N0.y[k]) := ow_cell oz9 hn2
      have c3 : w10.cell? (at_ v7 k) = some (.int .u8 (K0.b[k].toNat : Int)) := BytesAt.cell (show BytesAt w10 v7 K0.b from ow8.sl) hk1
      have c4 : w10.cell? (at_ y7 k) = some (.int .i64 K0.y[k]) := ow_cell oz8 hk2
      have i1 := ow9.sl.run_idx (P := Try.prog) IB.und IB.size .i64 k hn1
      have i2 := oz9.sl.run_idx (P := Try.prog) II.und II.size .i64 k hn2
      have i3 := ow8.sl.run_idx (P := Try.prog) IB.und IB.size .i64 k hk1
      have i4 := oz8.sl.run_idx (P := Try.prog) II.und II.size .i64 k hk2
      simp only [Nat.mul_one] at i1 i2 i3 i4
      by_cases hin : bcheck m4 0 a b.length = 0 ∧ a ≤ (k : Int) ∧ (k : Int) - a < b.length
      · obtain ⟨h1, h2, h3⟩ := hin
        obtain ⟨j, hj⟩ : ∃ j : Nat, (k : Int) - a = j := ⟨((k : Int) - a).toNat, by omega⟩
        have hjl : j < b.length := by omega
        obtain ⟨p1, p2⟩ := NIN.out k hlt h1 h2 h3
        rw [hj, Int.toNat_natCast, List.getElem?_eq_getElem hn1, List.getElem?_eq_getElem hjl] at p1
        rw [List.getElem?_eq_getElem hn2] at p2
        have t1 : ((N0.b[k].toNat : Int) != (b[j].toNat : Int)) = false := by rw [Option.some.inj p1]; simp
        have t2 : (N0.y[k] != by_) = false := by rw [Option.some.inj p2]; simp
        have c5 : w10.cell? (at_ vb j) = some (.int .u8 (b[j].toNat : Int)) := BytesAt.cell (hb.ext XX.out) hjl
        have i5 := Sl.run_idx (P := Try.prog) hb IB.und IB.size .i64 j hjl
        simp only [Nat.mul_one] at i5
        rw [← hj] at i5
        have hwr : IntKind.i64.wrap ((k : Int) - a) = (k : Int) - a := IntWalk.i64_in _ (by omega)
        clear p1 p2 hj
        go_wp2_with fail
        go_quiet (fail)
        go_wp2
        go_roundw
        case rel => exact ⟨k + 1, by omega, by go_num, _, rfl⟩
        case measure => simp [intOf]; omega
      · obtain ⟨p1, p2⟩ := NOUT.out k hlt (by omega)
        rw [List.getElem?_eq_getElem hn1, List.getElem?_eq_getElem hk1] at p1
        rw [List.getElem?_eq_getElem hn2, List.getElem?_eq_getElem hk2] at p2
        have t1 : ((N0.b[k].toNat : Int) != (K0.b[k].toNat : Int)) = false := by rw [Option.some.inj p1]; simp
        have t2 : (N0.y[k] != K0.y[k]) = false := by rw [Option.some.inj p2]; simp
        clear p1 p2
        by_cases h1 : bcheck m4 0 a b.length = 0
        · by_cases h2 : a ≤ (k : Int)
          · have h3 : ¬ ((k : Int) - a < b.length) := fun h => hin ⟨h1, h2, h⟩
            have hwr : IntKind.i64.wrap ((k : Int) - a) = (k : Int) - a := IntWalk.i64_in _ (by have := bcheck_0 h1; omega)
            have h1' : (bcheck m4 0 a b.length == 0) = true := beq_iff_eq.2 h1
            clear hin h1
            go_wp2_with fail
            go_quiet (fail)
            go_wp2
            go_roundw
            case rel => exact ⟨k + 1, by omega, by go_num, _, rfl⟩
            case measure => simp [intOf]; omega
          · have h1' : (bcheck m4 0 a b.length == 0) = true := beq_iff_eq.2 h1
            clear hin h1
            go_wp2_with fail
            go_quiet (fail)
            go_wp2
            go_roundw
            case rel => exact ⟨k + 1, by omega, by go_num, _, rfl⟩
            case measure => simp [intOf]; omega
        · have h1' : (bcheck m4 0 a b.length == 0) = false := beq_eq_false_iff_ne.2 h1
          clear hin h1
          go_wp2_with fail
          go_quiet (fail)
          go_wp2
          go_roundw
          case rel => exact ⟨k + 1, by omega, by go_num, _, rfl⟩
          case measure => simp [intOf]; omega
    · have hlt' : ¬ (k : Int) < (z : Int) := by omega
      go_wp2_with fail
      refine (first18_any _).mono ?_
      rintro e w11 ⟨rfl, x11⟩
      go_wp2_with fail
      go_ret
      exact ⟨rfl, (XX.out.drewN n).trans x11⟩
end Go.Proofs.Ytnnciakdeoopaaa
