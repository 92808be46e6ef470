/-
  BlockPlays: the walk of renlaw18.BlockPlays. No condition.
-/
import Derived.Test.YtnnciakdeoopaaaBlkFirst
import Derived.Test.YtnnciakdeoopaaaBlkCopy
import Derived.Test.YtnnciakdeoopaaaOp18
namespace Go.Proofs.Ytnnciakdeoopaaa
open Go.Ren Go.RowKit
set_option linter.unusedVariables false

theorem six_cells {w : World} {g : Nat} {a b c d e f : Value} {t : TypeId} (h : w.heap[g]? = some (.cells #[a, b, c, d, e, f] t (0, 0))) :
    w.cell? ⟨g, 0, none⟩ = some a ∧ w.cell? ⟨g, 1, none⟩ = some b ∧ w.cell? ⟨g, 2, none⟩ = some c ∧ w.cell? ⟨g, 3, none⟩ = some d ∧ w.cell? ⟨g, 4, none⟩ = some e ∧ w.cell? ⟨g, 5, none⟩ = some f := by
  simp [World.cell?, h]

theorem OpsAt.ext {w w' : World} {v : Value} {l : List Op18} (h : OpsAt w v l) (x : Ext w w') : OpsAt w' v l := by
  obtain ⟨xs, hs, hr⟩ := h
  exact ⟨xs, hs.ext (by decide) x, fun i hi => by obtain ⟨vb, h1, h2, h3⟩ := hr i hi; exact ⟨vb, h1, h2.ext x, h3⟩⟩
theorem bread_len {m : List Blk} (h : BOk m) {k a n : Int} : (breadB m k a n).length = (breadY m k a n).length := by
  unfold breadB breadY
  by_cases h0 : bcheck m k a n = 0
  · rw [if_pos h0, if_pos h0]
    obtain ⟨q1, q2, q3, q4, q5, _⟩ := bcheck_0 h0
    have := h.len k.toNat (by omega)
    rw [cut_len (by omega), cut_len (by omega)]
  · rw [if_neg h0, if_neg h0]; rfl
theorem bread_le {m : List Blk} (h : BOk m) {k a n : Int} : (breadB m k a n).length ≤ 256 := by
  unfold breadB
  by_cases h0 : bcheck m k a n = 0
  · rw [if_pos h0]
    obtain ⟨q1, q2, q3, q4, q5, _⟩ := bcheck_0 h0
    have := h.top k.toNat (by omega)
    rw [cut_len (by omega)]; omega
  · rw [if_neg h0]; exact Nat.zero_le _
theorem ref_nil (w : World) : RefAt (w.alloc (.cells #[.slice none 0 0, .slice none 0 0] 54)) (.pointer (some ⟨w.heap.size, 0, none⟩)) [] (fun k => k = w.heap.size) := by
  refine ⟨w.heap.size, .slice none 0 0, .slice none 0 0, fun _ => .slice none 0 0, fun _ => .slice none 0 0, rfl, ⟨by simp only [heap_alloc_if, if_true], Own.nil _ _ _, Own.nil _ _ _, fun i h => by simp at h, fun i h => by simp at h, fun i j k h => by simp at h, fun i j k h => by simp at h, bok_nil⟩, fun k => ⟨fun h => .inl h, fun h => ?_⟩⟩
  rcases h with h | h | h | ⟨i, hi, _⟩
  · exact h
  · cases h
  · cases h
  · simp at hi

/-- Where the play stands: both hold the same blocks, in memory of their own. -/
def Stand (w wr : World) (pm px : Value) (m : List Blk) : Prop := ∃ S T, BlocksAt wr pm m S ∧ RefAt wr px m T ∧ Ext w wr ∧ (∀ k, S k → w.heap.size ≤ k) ∧ (∀ k, T k → w.heap.size ≤ k) ∧ ∀ k, S k → ¬ T k

set_option maxRecDepth 100000 in
set_option maxHeartbeats 3200000 in
theorem plays_all (v : Value) (l : List Op18) (w : World) (hv : OpsAt w v l) :
    Calls Try.prog 8 #[v] w fun e w' => e = .returned (.bool true) ∧ Ext w w' := by
  obtain ⟨xs, hs⟩ := hv.len
  have ll := hs.run_len (P := Try.prog) IOp.und 3
  have hI := hs.run_idx (P := Try.prog) IOp.und IOp.size .i64
  have HV := Lib.hid hv
  have HI := Lib.hid hI
  clear hs hI
  go_enter Try.func8, Try.ntmps8
  go_wp2_with fail
  refine (first18_any _).mono ?_
  rintro e w1 ⟨rfl, x1⟩
  go_wp2_with fail
  refine (new_any _).mono ?_
  rintro e w2 ⟨pb, S2, rfl, B2, x2, f2⟩
  have X2 := x1.trans x2
  have g2 : ∀ k, S2 k → w.heap.size ≤ k := fun k h => Nat.le_trans x1.size (f2 k h)
  clear x1 x2 f2
  go_wp2_with fail
  refine (few_any _ _ _ (HV.out.ext X2)).mono ?_
  rintro e w3 ⟨⟨r, rfl, hr⟩, rfl⟩
  cases r
  · go_wp2_with fail
    refine (first18_any _).mono ?_
    rintro e w3 ⟨rfl, x3⟩
    go_wp2_with fail
    go_ret
    exact ⟨rfl, X2.trans x3⟩
  obtain ⟨hr1, hr2⟩ := hr rfl
  have HR := Lib.hid hr2
  clear hr hr2 hv
  go_wp2_with fail
  obtain ⟨w4, hw4⟩ : ∃ w4, w4 = w3.alloc (.cells #[.slice none 0 0, .slice none 0 0] 54) := ⟨_, rfl⟩
  obtain ⟨px, hpx⟩ : ∃ px, px = w3.heap.size := ⟨_, rfl⟩
  have R4 := ref_nil w3
  have x4 : Ext w3 w4 := by rw [hw4]; exact (Mod.refl _ _).alloc _
  rw [← hw4, ← hpx] at R4 ⊢
  have ST : Stand w w4 (.pointer (some ⟨pb, 0, none⟩)) (.pointer (some ⟨px, 0, none⟩)) [] := ⟨S2, _, B2.ext x4, R4, X2.trans x4, g2, fun k hk => by have := X2.size; omega, fun k hk hk' => by have := B2.lt hk; omega⟩
  clear hw4 hpx R4 x4 B2 g2 X2
  go_loopw [3, 5] (fun s3 s5 wr => ∃ (i pm : Nat) (m : List Blk), i ≤ l.length ∧ s5 = .int .i64 (i : Int) ∧ s3 = .pointer (some ⟨pm, 0, none⟩) ∧ Stand w wr s3 (.pointer (some ⟨px, 0, none⟩)) m) (fun _ i _ => l.length - (intOf i).toNat)
  case atStart => exact ⟨0, pb, [], Nat.zero_le _, rfl, rfl, ST⟩
  case round =>
    obtain ⟨i, pm, m, hi, rfl, rfl, ST⟩ := hrel
    by_cases hlt : i < l.length
    · have hlt' : (i : Int) < (l.length : Int) := by omega
      have i1 := HI.out i hlt
      obtain ⟨S, T, B, R, X, gS, gT, hd⟩ := ST
      obtain ⟨vb, hb, c0, c1, c2, c3, c4, c5, ik, ib, ia, inn, iy⟩ := (HV.out.ext X).cells hlt
      have hbl := HR.out i hlt
      have hfp : ∀ q, fp vb q → q < w.heap.size := by
        obtain ⟨vb', hb', _, _, _, _, c4', _⟩ := HV.out.cells hlt
        have e := X.cell c4'
        rw [c4] at e
        obtain rfl := Option.some.inj e
        exact fun q hq => Sl.lt hb' (by decide) hq
      obtain ⟨⟨kd, bl, a, n, b, y⟩, ho⟩ : ∃ o, o = l[i] := ⟨_, rfl⟩
      rw [← ho] at hb c0 c1 c2 c3 c5 ik ib ia inn iy hbl
      simp only at hb c0 c1 c2 c3 c5 ik ib ia inn iy hbl
      have k1 := Sl.cells_eq hb
      have t1 := Sl.run_st (P := Try.prog) hb
      obtain ⟨g, hg⟩ : ∃ g, g = wr.heap.size := ⟨_, rfl⟩
      obtain ⟨w0, hw0⟩ : ∃ w0, w0 = wr.alloc (.cells #[.int .i64 kd, .int .i64 bl, .int .i64 a, .int .i64 n, vb, .int .i64 y] 56) := ⟨_, rfl⟩
      have x0 : Ext wr w0 := by rw [hw0]; exact (Mod.refl _ _).alloc _
      have h0 : w0.heap[g]? = some (.cells #[.int .i64 kd, .int .i64 bl, .int .i64 a, .int .i64 n, vb, .int .i64 y] 56 (0, 0)) := by rw [hw0, hg]; simp only [heap_alloc_if, if_true]
      have B0 := B.ext x0
      have R0 := R.ext x0
      have X0 : Ext w w0 := X.trans x0
      have hgS : ¬ S g := fun h => by have := B.lt h; omega
      have hgT : ¬ T g := fun h => by have := R.lt h; omega
      have hb0 : BytesAt w0 vb b := BytesAt.ext hb x0
      have hgw : w.heap.size ≤ g := by have := X.size; omega
      have HG := Lib.hid (And.intro hw0 hg)
      have ST := Lib.hid (And.intro B0 (And.intro R0 (And.intro X0 (And.intro gS (And.intro gT hd)))))
      clear ho hw0 hg B R X x0 B0 R0 X0 gS gT hd hb
      have key : ∀ w' : World, w'.heap[g]? = w0.heap[g]? → (w'.cell? ⟨g, 0, none⟩ = some (.int .i64 kd) ∧ w'.cell? ⟨g, 1, none⟩ = some (.int .i64 bl) ∧ w'.cell? ⟨g, 2, none⟩ = some (.int .i64 a) ∧ w'.cell? ⟨g, 3, none⟩ = some (.int .i64 n) ∧ w'.cell? ⟨g, 4, none⟩ = some vb ∧ w'.cell? ⟨g, 5, none⟩ = some (.int .i64 y)) := fun w' e => six_cells (e.trans h0)
      have KEY := Lib.hid key
      obtain ⟨d0, d1, d2, d3, d4, d5⟩ := key w0 rfl
      clear key
      go_upto_region 11 with fail
      rw [← HG.out.1, ← HG.out.2]
      have hgl : g < w0.heap.size := lt_of_block h0
      rcases (by omega : kd = 0 ∨ kd = 1 ∨ kd = 2 ∨ (kd ≠ 0 ∧ kd ≠ 1 ∧ kd ≠ 2)) with rfl | rfl | rfl | ⟨n0, n1, n2⟩
      · go_wp2_with fail
        refine (make_any _ _ _ _ ST.out.1 _).mono ?_
        rintro e w5 ⟨rfl, S5, B5, x5, f5⟩
        have R5 := ST.out.2.1.mod x5 (fun k h h' => ST.out.2.2.2.2.2 k h' h)
        obtain ⟨e0, e1, e2, e3, e4, e5⟩ := KEY.out w5 (x5.block g hgl hgS)
        have HF := Lib.hid (And.intro B5 (And.intro x5 f5))
        clear d0 d1 d2 d3 d4 d5 B5 x5 f5
        go_wp2_with fail
        refine (rmake_any _ _ _ _ R5 _).mono ?_
        rintro e w6 ⟨rfl, T6, R6, x6, f6⟩
        obtain ⟨B5, x5, f5⟩ := HF.out
        obtain ⟨B0, R0, X0, gS, gT, hd⟩ := ST.out
        have B6 := B5.mod x6 (fun k h h' => (f5 k h).elim (fun h => hd k h h') (fun h => by have := R0.lt h'; omega))
        have z5 := x5.size
        have STN : Stand w w6 (.pointer (some ⟨pm, 0, none⟩)) (.pointer (some ⟨px, 0, none⟩)) (bmake m n) := ⟨S5, T6, B6, R6, (X0.trans' x5 (fun k h => .inr (gS k h))).trans' x6 (fun k h => .inr (gT k h)), fun k h => (f5 k h).elim (gS k) (fun h => Nat.le_trans X0.size h), fun k h => (f6 k h).elim (gT k) (fun h => Nat.le_trans (Nat.le_trans X0.size z5) h),
          fun k h h' => (f6 k h').elim (fun h' => (f5 k h).elim (fun h => hd k h h') (fun h => by have := R0.lt h'; omega)) (fun h' => by have := B5.lt h; omega)⟩
        have SN := Lib.hid STN
        clear STN B6 B5 x5 f5 R6 x6 f6 B0 R0 X0 gS gT hd R5
        go_wp2_with fail
        go_roundw
        case rel => exact ⟨i + 1, pm, _, by omega, by go_num, rfl, SN.out⟩
        case measure => simp [intOf]; omega
      · have KP : ∀ w' : World, w'.heap[g]? = w0.heap[g]? → (w'.cell? ⟨g, 1, none⟩ = some (.int .i64 bl) ∧ w'.cell? ⟨g, 2, none⟩ = some (.int .i64 a) ∧ w'.cell? ⟨g, 4, none⟩ = some vb ∧ w'.cell? ⟨g, 5, none⟩ = some (.int .i64 y)) := fun w' e => ⟨(KEY.out w' e).2.1, (KEY.out w' e).2.2.1, (KEY.out w' e).2.2.2.2.1, (KEY.out w' e).2.2.2.2.2⟩
        have KQ := Lib.hid KP
        clear KP
        go_wp2_with fail
        go_region_held3 (fun w' => w'.cell? ⟨g, 1, none⟩ = some (.int .i64 bl) ∧ w'.cell? ⟨g, 2, none⟩ = some (.int .i64 a) ∧ w'.cell? ⟨g, 4, none⟩ = some vb ∧ w'.cell? ⟨g, 5, none⟩ = some (.int .i64 y)) (first | exact K6 | exact K5 | exact ⟨d1, d2, d4, d5⟩) (first | (go_at_call 21; refine (write_any _ _ _ _ (ST.out.1.ext (by repeat (first | exact Mod.refl _ _ | apply Mod.drew))) _ _ _ b (BytesAt.ext hb0 (by repeat (first | exact Mod.refl _ _ | apply Mod.drew))) (by omega) _ iy).mono ?_; rintro e w5 ⟨rfl, B5, x5⟩; have K5 := KQ.out w5 (x5.block g hgl hgS)) | (go_at_call 28; refine (rwrite_any _ _ _ _ (RefAt.mod (ST.out.2.1.ext (by repeat (first | exact Mod.refl _ _ | apply Mod.drew))) x5 (fun k h h' => ST.out.2.2.2.2.2 k h' h)) _ _ _ b (BytesAt.mod (BytesAt.ext hb0 (by repeat (first | exact Mod.refl _ _ | apply Mod.drew))) x5 (fun q hq h => by have := hfp q hq; have := ST.out.2.2.2.1 q h; omega)) (fun q hq h => by have := hfp q hq; have := ST.out.2.2.2.2.1 q h; omega) (by omega) _ iy).mono ?_; rintro e w6 ⟨rfl, R6, x6⟩; have K6 := KQ.out w6 ((x6.block g (Nat.lt_of_lt_of_le hgl x5.size) hgT).trans (x5.block g hgl hgS))))
        obtain ⟨B0, R0, X0, gS, gT, hd⟩ := ST.out
        have B6 := B5.mod x6 (fun k h h' => hd k h h')
        have STN : Stand w w6 (.pointer (some ⟨pm, 0, none⟩)) (.pointer (some ⟨px, 0, none⟩)) (bwrite m bl a b y) := ⟨S, T, B6, R6, (X0.drew.trans' x5 (fun k h => .inr (gS k h))).trans' x6 (fun k h => .inr (gT k h)), gS, gT, hd⟩
        have SN := Lib.hid STN
        clear STN B6 B5 x5 R6 x6 B0 R0 X0 gS gT hd K5 K6
        go_wp2_with fail
        go_roundw
        case rel => exact ⟨i + 1, pm, _, by omega, by go_num, rfl, SN.out⟩
        case measure => simp [intOf]; omega
      · go_wp2_with fail
        refine (read_any _ _ _ _ ST.out.1 _ _ _).mono ?_
        rintro e w5 ⟨v5, y5, rfl, ov5, oy5, x5, fv5, fy5⟩
        have R5 := ST.out.2.1.ext x5
        have hok5 : ∀ z ∈ breadY m bl a n, I64 z := by obtain ⟨_, _, _, _, _, _, hin, _⟩ := ST.out.2.1.ex; exact breadY_ok hin.ok
        obtain ⟨e0, e1, e2, e3, e4, e5⟩ := KEY.out w5 (x5.block g hgl (fun h => h))
        clear d0 d1 d2 d3 d4 d5
        go_wp2_with fail
        refine (rread_any _ _ _ _ R5 _ _ _).mono ?_
        rintro e w6 ⟨v6, y6, rfl, ov6, oy6, x6, fv6, fy6⟩
        have ov7 := ov5.ext x6
        have oy7 := oy5.ext x6
        go_wp2_with fail
        refine (bytes_any _ _ _ _ _ ov7.sl ov6.sl).mono ?_
        rintro e w7 ⟨rfl, rfl⟩
        rw [beq_self_eq_true]
        go_wp2_with fail
        refine (ints_any _ _ _ _ _ ⟨oy7.sl, hok5⟩ ⟨oy6.sl, hok5⟩).mono ?_
        rintro e w7 ⟨rfl, n7, rfl⟩
        rw [beq_self_eq_true]
        have lv7 := ov7.sl.run_len (P := Try.prog) IB.und 3
        have ovn := ov7.ext ((Mod.refl NoF _).drewN n7)
        have oyn := oy7.ext ((Mod.refl NoF _).drewN n7)
        have XN : Ext w0 (w6.drewN n7) := (x5.trans x6).drewN n7
        obtain ⟨w7, hw7⟩ : ∃ w7, w7 = w6.drewN n7 := ⟨_, rfl⟩
        rw [← hw7] at ovn oyn XN ⊢
        have hyl : (breadB m bl a n).length = (breadY m bl a n).length := by obtain ⟨_, _, _, _, _, _, hin, _⟩ := ST.out.2.1.ex; exact bread_len hin.ok
        have hle : (breadB m bl a n).length ≤ 256 := by obtain ⟨_, _, _, _, _, _, hin, _⟩ := ST.out.2.1.ex; exact bread_le hin.ok
        have FV := Lib.hid (And.intro fv5 fy5)
        clear fv6 fy6 ov5 oy5 ov6 oy6 ov7 oy7 x5 x6 R5 hok5 fv5 fy5 e0 e1 e2 e3 e4 e5 hw7
        go_wp2_with fail
        go_loopw [17] (fun s17 wz => ∃ (k : Nat) (bs ys : List Value), k ≤ (breadB m bl a n).length ∧ s17 = .int .i64 (k : Int) ∧ Mod (fun q => v5.ownBlock = some q ∨ y5.ownBlock = some q) w7 wz ∧ Own wz 5 1 v5 (breadB m bl a n).length bs ∧ Own wz 3 1 y5 (breadY m bl a n).length ys) (fun k _ => (breadB m bl a n).length - (intOf k).toNat)
        case atStart => exact ⟨0, _, _, Nat.zero_le _, rfl, Mod.refl _ _, ovn, oyn⟩
        case round =>
          obtain ⟨k, bs, ys, hk, rfl, xz, ob, oy⟩ := hrel
          by_cases hkz : k < (breadB m bl a n).length
          · have hkz' : (k : Int) < ((breadB m bl a n).length : Int) := by omega
            have kv := ob.sl.run_idx (P := Try.prog) IB.und IB.size .i64 k hkz
            have ky := oy.sl.run_idx (P := Try.prog) II.und II.size .i64 k (by omega)
            simp only [Nat.mul_one] at kv ky
            have fv := ob.frozen k (by omega)
            obtain ⟨uv, cv⟩ : ∃ u, wr.cell? (at_ v5 k) = some u := ⟨_, ob.sl.cell k _ (List.getElem?_eq_getElem (by have := ob.sl.len; omega))⟩
            have os := ob.set (by omega) k (.int .u8 99)
            have fq : v5.ownBlock = some (at_ v5 k).block := ob.at_block (by omega) _
            have M1 : Mod (fun q => v5.ownBlock = some q) wr (wr.setCell (at_ v5 k) (.int .u8 99)) := Mod.setCell (F := fun q => v5.ownBlock = some q) (Mod.refl _ _) (.inl fq) _
            have oy1 := oy.mod M1 (fun q hq h => ob.apart oy (by decide) h hq)
            have fy := oy1.frozen k (by omega)
            obtain ⟨uy, cy⟩ : ∃ u, (wr.setCell (at_ v5 k) (.int .u8 99)).cell? (at_ y5 k) = some u := ⟨_, oy1.sl.cell k _ (List.getElem?_eq_getElem (by have := oy1.sl.len; omega))⟩
            have oys := oy1.set (by omega) k (.int .i64 99)
            have fqy : y5.ownBlock = some (at_ y5 k).block := oy1.at_block (by omega) _
            have M2 : Mod (fun q => y5.ownBlock = some q) (wr.setCell (at_ v5 k) (.int .u8 99)) ((wr.setCell (at_ v5 k) (.int .u8 99)).setCell (at_ y5 k) (.int .i64 99)) := Mod.setCell (F := fun q => y5.ownBlock = some q) (Mod.refl _ _) (.inl fqy) _
            have OS := Lib.hid (And.intro ((xz.trans' M1 (fun q h => .inl (.inl h))).trans' M2 (fun q h => .inl (.inr h))) (And.intro (os.mod M2 (fun q hq h => os.apart oy1 (by decide) hq h)) oys))
            clear os fq M1 oy1 oys fqy M2 ob oy xz
            go_wp2_with fail
            go_roundw
            case rel => exact ⟨k + 1, _, _, by omega, by go_num, OS.out.1, OS.out.2.1, OS.out.2.2⟩
            case measure => simp [intOf]; omega
          · have hkz' : ¬ (k : Int) < ((breadB m bl a n).length : Int) := by omega
            obtain ⟨B0, R0, X0, gS, gT, hd⟩ := ST.out
            have zz := XN.size
            have Mz : Mod (fun q => v5.ownBlock = some q ∨ y5.ownBlock = some q) w0 wr := (XN.mod _).trans xz
            have hF : ∀ q, (v5.ownBlock = some q ∨ y5.ownBlock = some q) → w0.heap.size ≤ q := fun q h => h.elim (FV.out.1 q) (FV.out.2 q)
            have STN : Stand w wr (.pointer (some ⟨pm, 0, none⟩)) (.pointer (some ⟨px, 0, none⟩)) m := ⟨S, T, B0.mod Mz (fun k h h' => by have := hF k h'; have := B0.lt h; omega), R0.mod Mz (fun k h h' => by have := hF k h'; have := R0.lt h; omega), X0.trans' Mz (fun k h => .inr (Nat.le_trans X0.size (hF k h))), gS, gT, hd⟩
            have SN := Lib.hid STN
            clear STN Mz hF B0 R0 X0 gS gT hd xz ob oy XN
            go_wp2_with fail
            go_roundw
            case rel => exact ⟨i + 1, pm, _, by omega, by go_num, rfl, SN.out⟩
            case measure => simp [intOf]; omega
      · have n0' : (kd == 0) = false := beq_eq_false_iff_ne.2 n0
        have n1' : (kd == 1) = false := beq_eq_false_iff_ne.2 n1
        have n2' : (kd == 2) = false := beq_eq_false_iff_ne.2 n2
        go_wp2_with fail
        refine (copy_any _ _ _ _ ST.out.1).mono ?_
        rintro e w5 ⟨po, S5, rfl, B5, x5, f5⟩
        obtain ⟨B0, R0, X0, gS, gT, hd⟩ := ST.out
        have B05 := B0.ext x5
        have HF := Lib.hid (And.intro B5 (And.intro x5 f5))
        clear B0 R0 X0 gS gT hd d0 d1 d2 d3 d4 d5 B5 x5 f5
        go_wp2_with fail
        refine (write_any _ _ _ _ (B05.ext ((Mod.refl _ _).alloc _)) _ _ _ [77] (lit_bytes (n := 1) (heap_alloc_new _ _) rfl rfl (by omega)) (by decide) _ ⟨by decide, by decide⟩).mono ?_
        rintro e w6 ⟨rfl, B6, x6⟩
        obtain ⟨B5, x5, f5⟩ := HF.out
        obtain ⟨B0, R0, X0, gS, gT, hd⟩ := ST.out
        have xx : Mod S w5 w6 := ((Mod.refl S w5).alloc _).trans x6
        have STN : Stand w w6 (.pointer (some ⟨po, 0, none⟩)) (.pointer (some ⟨px, 0, none⟩)) m := ⟨S5, T, B5.mod xx (fun k h h' => by have := f5 k h; have := B0.lt h'; omega), (R0.ext x5).mod xx (fun k h h' => hd k h' h), (X0.trans x5).trans' xx (fun k h => .inr (gS k h)), fun k h => Nat.le_trans X0.size (f5 k h), gT, fun k h h' => by have := f5 k h; have := R0.lt h'; omega⟩
        have SN := Lib.hid STN
        clear STN xx B6 x6 B5 x5 f5 B0 R0 X0 gS gT hd B05
        go_wp2_with fail
        go_roundw
        case rel => exact ⟨i + 1, po, _, by omega, by go_num, rfl, SN.out⟩
        case measure => simp [intOf]; omega
    · have hlt' : ¬ (i : Int) < (l.length : Int) := by omega
      obtain ⟨S, T, B, R, X, _, _, _⟩ := ST
      go_wp2_with fail
      refine (first18_any _).mono ?_
      rintro e w5 ⟨rfl, x5⟩
      go_wp2_with fail
      refine (same_any _ _ _ _ _ _ (B.ext x5) (R.ext x5)).mono ?_
      rintro e w6 ⟨rfl, x6⟩
      go_wp2_with fail
      go_ret
      exact ⟨rfl, (X.trans x5).trans x6⟩
end Go.Proofs.Ytnnciakdeoopaaa
