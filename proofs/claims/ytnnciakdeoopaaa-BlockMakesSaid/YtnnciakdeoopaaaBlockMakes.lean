/-
  BlockMakes: the walk of renlaw18.BlockMakes. No condition.
-/
import Derived.Test.YtnnciakdeoopaaaBlkFirst
import Derived.Test.YtnnciakdeoopaaaBlkAll
import Derived.Test.YtnnciakdeoopaaaBlockBounds
import Derived.Test.YtnnciakdeoopaaaBlockKeepsLaw
import Derived.BigQuiet
namespace Go.Proofs.Ytnnciakdeoopaaa
open Go.Ren Go.RowKit
set_option linter.unusedVariables false

theorem bwrite_len (m : List Blk) (k a : Int) (x : List UInt8) (y : Int) : (bwrite m k a x y).length = m.length := by
  unfold bwrite; split <;> simp

set_option maxRecDepth 100000 in
set_option maxHeartbeats 1600000 in
theorem makes_all (v : Value) (l : List Int) (w : World) (hv : IntsAt w v l) :
    Calls Try.prog 7 #[v] w fun e w' => e = .returned (.bool true) ∧ Ext w w' := by
  have ll := hv.sl.run_len (P := Try.prog) II.und 3
  have hI := hv.sl.run_idx (P := Try.prog) II.und II.size .i64
  go_enter Try.func7, Try.ntmps7
  go_wp2_with fail
  refine (first18_any _).mono ?_
  rintro e w1 ⟨rfl, x1⟩
  go_wp2_with fail
  refine (new_any _).mono ?_
  rintro e w2 ⟨pb, S2, rfl, B2, x2, f2⟩
  have X2 := x1.trans x2
  have g2 : ∀ k, S2 k → w.heap.size ≤ k := fun k h => Nat.le_trans x1.size (f2 k h)
  clear x1 x2 f2
  go_wp2_with fail
  all_goals try (go_at_call 18; refine (first18_any _).mono ?_; rintro e w3 ⟨rfl, x3⟩; go_wp2_with fail; go_ret; exact ⟨rfl, X2.trans x3⟩)
  have hl : l.length ≤ 100 := by omega
  go_loopw [4, 5] (fun s4 s5 wr => ∃ (i : Nat) (m : List Blk) (S : Nat → Prop), i ≤ l.length ∧ s5 = .int .i64 (i : Int) ∧ s4 = .int .i64 (m.length : Int) ∧ BlocksAt wr (.pointer (some ⟨pb, 0, none⟩)) m S ∧ Ext w wr ∧ ∀ k, S k → w.heap.size ≤ k) (fun _ i _ => l.length - (intOf i).toNat)
  case atStart => exact ⟨0, [], S2, Nat.zero_le _, rfl, rfl, B2, X2, g2⟩
  case round =>
    obtain ⟨i, m, S, hi, rfl, rfl, B, X, g⟩ := hrel
    clear B2 X2 g2
    by_cases hlt : i < l.length
    · have hlt' : (i : Int) < (l.length : Int) := by omega
      have i1 := hI i hlt
      simp only [Nat.mul_one] at i1
      obtain ⟨s, hs⟩ : ∃ s, s = l[i] := ⟨_, rfl⟩
      have cw : w.cell? (at_ v i) = some (.int .i64 s) := by rw [hs]; exact hv.sl.cell i _ (by simp [hlt, iv])
      have c0 := X.cell cw
      have XX := Lib.hid X; have GG := Lib.hid g; have CW := Lib.hid cw
      clear hI hs hv X g cw
      have hM := Lib.hid (show bmakeE m s ≠ 0 → bmake m s = m from fun h => by unfold bmake; rw [if_neg h])
      rcases (by omega : s < 0 ∨ (0 ≤ s ∧ 256 < s) ∨ (0 ≤ s ∧ s ≤ 256 ∧ 16 ≤ m.length) ∨ (0 ≤ s ∧ s ≤ 256 ∧ m.length < 16)) with h | ⟨h1, h2⟩ | ⟨h1, h2, h3⟩ | ⟨h1, h2, h3⟩
      · have hE : bmakeE m s = 1 := by unfold bmakeE; rw [if_pos (by omega)]
        have hB : bmake m s = m := hM.out (by omega)
        clear hM
        go_wp2_with fail
        refine (make_any _ _ _ _ B _).mono ?_
        rintro e w3 ⟨rfl, S3, B3, x3, f3⟩
        rw [hB] at B3
        have X3 : Ext w w3 := XX.out.trans' x3 (fun k h => .inr (GG.out k h))
        have c3 := X3.cell CW.out
        have F3 := Lib.hid (And.intro X3 f3)
        clear c0 x3 f3 X3 hB
        go_wp2_with fail
        go_roundw
        case rel => exact ⟨i + 1, m, S3, by omega, by go_num, rfl, B3, F3.out.1, fun k h => (F3.out.2 k h).elim (GG.out k) (fun h => Nat.le_trans XX.out.size h)⟩
        case measure => simp [intOf]; omega
      · have hE : bmakeE m s = 1 := by unfold bmakeE; rw [if_pos (by omega)]
        have hB : bmake m s = m := hM.out (by omega)
        clear hM
        go_wp2_with fail
        refine (make_any _ _ _ _ B _).mono ?_
        rintro e w3 ⟨rfl, S3, B3, x3, f3⟩
        rw [hB] at B3
        have X3 : Ext w w3 := XX.out.trans' x3 (fun k h => .inr (GG.out k h))
        have c3 := X3.cell CW.out
        have F3 := Lib.hid (And.intro X3 f3)
        clear c0 x3 f3 X3 hB
        go_wp2_with fail
        go_roundw
        case rel => exact ⟨i + 1, m, S3, by omega, by go_num, rfl, B3, F3.out.1, fun k h => (F3.out.2 k h).elim (GG.out k) (fun h => Nat.le_trans XX.out.size h)⟩
        case measure => simp [intOf]; omega
      · have hE : bmakeE m s = 11 := by unfold bmakeE; rw [if_neg (by omega), if_pos h3]
        have h3' : (16 : Int) ≤ (m.length : Int) := by omega
        have hB : bmake m s = m := hM.out (by omega)
        clear hM
        go_wp2_with fail
        refine (make_any _ _ _ _ B _).mono ?_
        rintro e w3 ⟨rfl, S3, B3, x3, f3⟩
        rw [hB] at B3
        have X3 : Ext w w3 := XX.out.trans' x3 (fun k h => .inr (GG.out k h))
        have c3 := X3.cell CW.out
        have F3 := Lib.hid (And.intro X3 f3)
        clear c0 x3 f3 X3 hB
        go_wp2_with fail
        go_roundw
        case rel => exact ⟨i + 1, m, S3, by omega, by go_num, rfl, B3, F3.out.1, fun k h => (F3.out.2 k h).elim (GG.out k) (fun h => Nat.le_trans XX.out.size h)⟩
        case measure => simp [intOf]; omega
      · obtain ⟨z, rfl⟩ := Int.eq_ofNat_of_zero_le h1
        have hE : bmakeE m (z : Int) = 0 := by unfold bmakeE; rw [if_neg (by omega), if_neg (by omega)]
        have hN : bmakeN m (z : Int) = (m.length : Int) := by unfold bmakeN; rw [if_pos hE]
        have hB : bmake m (z : Int) = m ++ [newBlk z] := by unfold bmake; rw [if_pos hE]; simp
        have h3' : (m.length : Int) < 16 := by omega
        have hw1 : IntKind.i64.wrap ((m.length : Int) + 1) = (m.length : Int) + 1 := IntWalk.i64_in _ (by omega)
        obtain ⟨m', hm'⟩ : ∃ m', m' = m ++ [newBlk z] := ⟨_, rfl⟩
        have hml : m'.length = m.length + 1 := by rw [hm']; simp
        have hbk : blk m' m.length = newBlk z := by rw [hm']; exact blk_snoc
        obtain ⟨r1, r2, r3⟩ := bread_all (m := m') (k := m.length) (by omega) z (by rw [hbk]; simp [newBlk]) (by rw [hbk]; simp [newBlk])
        rw [hbk] at r2 r3
        have hsz : bsize m' (m.length : Int) = (z : Int) := by unfold bsize; rw [if_pos (by omega), Int.toNat_natCast, hbk]; simp [newBlk]
        rw [← hm'] at hB
        have HB := Lib.hid (And.intro hB (And.intro r2 (And.intro r3 hml)))
        clear hB hm' hbk r2 r3 hml hM
        go_wp2_with fail
        refine (make_any _ _ _ _ B _).mono ?_
        rintro e w3 ⟨rfl, S3, B3, x3, f3⟩
        rw [HB.out.1] at B3
        have X3 : Ext w w3 := XX.out.trans' x3 (fun k h => .inr (GG.out k h))
        have g3 : ∀ k, S3 k → w.heap.size ≤ k := fun k h => (f3 k h).elim (GG.out k) (fun h => Nat.le_trans XX.out.size h)
        have c3 := X3.cell CW.out
        clear c0 x3 f3
        go_wp2_with fail
        refine (read_any _ _ _ _ B3 _ _ _).mono ?_
        rintro e w4 ⟨v4, y4, rfl, ov4, oy4, x4, fv4, fy4⟩
        rw [HB.out.2.1] at ov4; rw [HB.out.2.2.1] at oy4
        have X4 : Ext w w4 := X3.trans x4
        have c4 := X4.cell CW.out
        have B4 := B3.ext x4
        have l4 := ov4.sl.run_len (P := Try.prog) IB.und 3
        have zl : (newBlk z).b.length = z := by simp [newBlk]
        have zy : (newBlk z).y.length = z := by simp [newBlk]
        rw [zl] at l4
        have OV := Lib.hid (And.intro ov4 oy4)
        clear c3 B3 ov4 oy4 fv4 fy4 x4
        go_wp2_with fail
        have HS : ∀ n, Calls Try.prog 24 #[.pointer (some ⟨pb, 0, none⟩), .int .i64 (m.length : Int)] (w4.drewN n) fun e w' => e = .returned (.int .i64 (z : Int)) ∧ w' = w4.drewN n := fun n => by rw [← hsz]; exact (size_any _ _ _ _ (B4.ext ((Mod.refl _ _).drewN n)) _).mono fun e w' h => ⟨h.1, h.2.symm⟩
        go_quiet (exact Calls.quiet_of_same (HS _))
        go_wp2_with fail
        have mk := mk_bytes z (by omega)
        have cb : ∀ j, j < z → w4.cell? (at_ v4 j) = some (.int .u8 0) := fun j hj => OV.out.1.sl.cell j _ (by simp [newBlk, hj, bv])
        have cy : ∀ j, j < z → w4.cell? (at_ y4 j) = some (.int .i64 (-1)) := fun j hj => OV.out.2.sl.cell j _ (by simp [newBlk, hj, iv])
        have ib := OV.out.1.sl.run_idx (P := Try.prog) IB.und IB.size .i64
        have iy := OV.out.2.sl.run_idx (P := Try.prog) II.und II.size .i64
        rw [zl] at ib; rw [zy] at iy
        have B5 := B4.ext ((Mod.refl _ _).drewN nq)
        go_loopw [12] (fun s12 wr' => ∃ j : Nat, j ≤ z ∧ s12 = .int .i64 (j : Int) ∧ wr' = w4.drewN nq) (fun j _ => z - (intOf j).toNat)
        case atStart => exact ⟨0, Nat.zero_le _, rfl, rfl⟩
        case round =>
          obtain ⟨j, hj, rfl, rfl⟩ := hrel
          by_cases hjz : j < z
          · have hjz' : (j : Int) < (z : Int) := by omega
            have j1 := cb j hjz
            have j2 := cy j hjz
            have j3 := ib j hjz
            have j4 := iy j hjz
            simp only [Nat.mul_one] at j3 j4
            clear cb cy ib iy mk B4 B5 X4 HS
            go_wp2_with fail
            go_roundw
            case rel => exact ⟨j + 1, by omega, by go_num, trivial⟩
            case measure => simp [intOf]; omega
          · have hjz' : ¬ (j : Int) < (z : Int) := by omega
            clear cb cy ib iy HS
            go_wp2_with fail
            refine (write_any _ _ _ _ (B5.ext ((Mod.refl _ _).alloc _)) _ _ _ (List.replicate z 0) (made_bytes (by simp only [heap_alloc_if, World.heap_drewN, if_true]) (by omega)) (by simp; omega) _ ⟨by omega, by omega⟩).mono ?_
            rintro e w6 ⟨rfl, B6, x6⟩
            have X6 : Ext w w6 := ((X4.drewN nq).alloc _).trans' x6 (fun k h => .inr (g3 k h))
            have F6 := Lib.hid (And.intro B6 X6)
            clear B6 X6 x6 B5 X4 B4
            go_wp2_with fail
            go_roundw
            case rel => exact ⟨i + 1, _, S3, by omega, by go_num, by rw [bwrite_len, HB.out.2.2.2]; rfl, F6.out.1, F6.out.2, g3⟩
            case measure => simp [intOf]; omega
    · have hlt' : ¬ (i : Int) < (l.length : Int) := by omega
      go_wp2_with fail
      refine (first18_any _).mono ?_
      rintro e w3 ⟨rfl, x3⟩
      have B3 := B.ext x3
      go_wp2_with fail
      refine (len_any _ _ _ _ B3).mono ?_
      rintro e w4 ⟨rfl, rfl⟩
      go_wp2_with fail
      refine (all_any _ _ _ _ B3).mono ?_
      rintro e w5 ⟨u, V, rfl, hr, x5⟩
      have l5 := hr.row.sl.run_len (P := Try.prog) IBB.und 3
      have X5 : Ext w w5 := (X.trans x3).trans x5
      go_wp2_with fail
      go_ret
      exact ⟨rfl, X5⟩
end Go.Proofs.Ytnnciakdeoopaaa
