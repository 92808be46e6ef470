/-
  FifoOrder: the walk of renlaw19.FifoOrder. No condition.
-/
import Derived.Test.YtnnciakdeoopaaaFifoSees
import Derived.Test.YtnnciakdeoopaaaFifoOrderLaw
namespace Go.Proofs.Ytnnciakdeoopaaa
open Go.Ren Go.RowKit
set_option linter.unusedVariables false

def entRow (E : List Ent) (V : Nat → Value) : List Value := flat 5 E.length (fun i j => ecell (ent E i) (V i) j)
theorem row5_cells {w : World} {lv : Value} {V : Nat → Value} {E : List Ent} (h : Own w 65 5 lv E.length (entRow E V)) {i : Nat} (hi : i < E.length) :
    w.cell? (at_ lv (i * 5)) = some (.int .i64 (ent E i).blk) ∧ w.cell? ⟨(at_ lv (i * 5)).block, (at_ lv (i * 5)).off + 1, none⟩ = some (.int .i64 (ent E i).at_) ∧ w.cell? ⟨(at_ lv (i * 5)).block, (at_ lv (i * 5)).off + 2, none⟩ = some (V i) ∧
    w.cell? ⟨(at_ lv (i * 5)).block, (at_ lv (i * 5)).off + 3, none⟩ = some (.int .i64 (ent E i).by_) ∧ w.cell? ⟨(at_ lv (i * 5)).block, (at_ lv (i * 5)).off + 4, none⟩ = some (.bool (ent E i).tears) := by
  have g : ∀ j, j < 5 → (entRow E V)[i * 5 + j]? = some (ecell (ent E i) (V i) j) := fun j hj => flat_get (sz := 5) _ hi hj
  exact ⟨h.sl.cell _ _ (g 0 (by decide)), h.sl.cell_off (by decide) (g 1 (by decide)), h.sl.cell_off (by decide) (g 2 (by decide)), h.sl.cell_off (by decide) (g 3 (by decide)), h.sl.cell_off (by decide) (g 4 (by decide))⟩
theorem entRow_snoc (E : List Ent) (V : Nat → Value) (e : Ent) (v : Value) : entRow (E ++ [e]) (updV V E.length v) = entRow E V ++ [.int .i64 e.blk, .int .i64 e.at_, v, .int .i64 e.by_, .bool e.tears] := by
  unfold entRow
  rw [List.length_append, List.length_singleton, flat_succ _ _ _ (by decide)]
  congr 1
  · exact flat_congr fun i j hi _ => by rw [ent_snoc_lt hi, updV_lt hi]
  · simp [List.range, List.range.loop, ecell, ent_snoc, updV_same]

structure OrdRel (l : List Ent) (room pq pb : Nat) (m : List Blk) (T : Nat → Prop) (w : World) (i : Nat) (s8 : Value) (wr : World) : Prop where
  ex : ∃ V S, QueueAt wr (.pointer (some ⟨pq, 0, none⟩)) room (ordE room (l.take i)) S ∧ (∀ k, S k → ¬ T k ∧ w.heap.size ≤ k) ∧ Own wr 65 5 s8 (ordE room (l.take i)).length (entRow (ordE room (l.take i)) V) ∧
    (∀ a, a < (ordE room (l.take i)).length → BytesAt w (V a) (ent (ordE room (l.take i)) a).b) ∧ (∀ k, s8.ownBlock = some k → w.heap.size ≤ k ∧ ¬ S k ∧ ¬ T k)
  bl : BlocksAt wr (.pointer (some ⟨pb, 0, none⟩)) m T
  x : Ext w wr
structure OrdRel2 (E : List Ent) (room pq pb : Nat) (S0 T : Nat → Prop) (wL : World) (i : Nat) (wr : World) : Prop where
  ex : ∃ m S X Y, QueueAt wr (.pointer (some ⟨pq, 0, none⟩)) room (E.drop i) S ∧ BlocksAt wr (.pointer (some ⟨pb, 0, none⟩)) m T ∧ Sees (E.drop i) m X Y ∧ ∀ k, S k → S0 k
  md : Mod (fun k => S0 k ∨ T k) wL wr
theorem QueueAt.le {w : World} {p : Value} {room : Nat} {E : List Ent} {S : Nat → Prop} (h : QueueAt w p room E S) : E.length ≤ room := by
  obtain ⟨pq, lv, V, _, hin, _⟩ := h.ex; exact hin.cnt
theorem one5v (i1 i2 : Int) {v : Value} (hv : v.oneCell' = true) (i3 : Int) (t : Bool) : ∀ x ∈ [Value.int .i64 i1, .int .i64 i2, v, .int .i64 i3, .bool t], x.oneCell' = true := by
  intro x hx; simp at hx; rcases hx with rfl | rfl | rfl | rfl | rfl <;> first | rfl | exact hv

set_option maxRecDepth 100000 in
set_option maxHeartbeats 1600000 in
theorem order_all (v : Value) (size : Int) (l : List Ent) (w : World) (hs : I64 size) (hv : EntsAt w v l) :
    Calls Try.prog 10 #[.int .i64 size, v] w fun e w' => e = .returned (.bool true) ∧ Ext w w' := by
  obtain ⟨xs, hsl⟩ := hv.len
  have ll := hsl.run_len (P := Try.prog) IE.und 3
  have HI := Lib.hid (hsl.run_idx (P := Try.prog) IE.und IE.size .i64)
  have HV := Lib.hid hv
  clear hsl hv
  by_cases z0 : 1 ≤ size ∧ size ≤ 64
  case neg =>
    have HZ := Lib.hid z0
    clear z0
    go_enter Try.func10, Try.ntmps10
    go_wp2_with fail
    refine (first19_any _).mono ?_
    rintro e w1 ⟨rfl, x1⟩
    go_wp2_with fail
    refine (qnew_any _ _).mono ?_
    rintro e w2 ⟨-, h⟩
    obtain ⟨rfl, rfl⟩ := h HZ.out
    clear h
    go_wp2_with fail
    refine (new_any _).mono ?_
    rintro e w3 ⟨pb, T1, rfl, B3, x3, g3⟩
    go_wp2_with fail
    refine (first19_any _).mono ?_
    rintro e w4 ⟨rfl, x4⟩
    go_wp2_with fail
    go_ret
    exact ⟨rfl, (x1.trans x3).trans x4⟩
  obtain ⟨room, rfl⟩ := Int.eq_ofNat_of_zero_le (show 0 ≤ size by omega)
  have zr : 1 ≤ room ∧ room ≤ 64 := by omega
  by_cases z1 : l.length ≤ 64
  case neg =>
    have y1 : (64 : Int) < (l.length : Int) := by omega
    go_enter Try.func10, Try.ntmps10
    go_wp2_with fail
    refine (first19_any _).mono ?_
    rintro e w1 ⟨rfl, x1⟩
    go_wp2_with fail
    refine (qnew_any _ _).mono ?_
    rintro e w2 ⟨h, -⟩
    obtain ⟨pq, S1, rfl, Q2, x2, f2⟩ := h (by omega)
    clear h
    go_wp2_with fail
    refine (new_any _).mono ?_
    rintro e w3 ⟨pb, T1, rfl, B3, x3, g3⟩
    go_wp2_with fail
    refine (first19_any _).mono ?_
    rintro e w4 ⟨rfl, x4⟩
    go_wp2_with fail
    go_ret
    exact ⟨rfl, ((x1.trans x2).trans x3).trans x4⟩
  have y1 : ¬ (64 : Int) < (l.length : Int) := by omega
  clear z0
  go_enter Try.func10, Try.ntmps10
  go_wp2_with fail
  refine (first19_any _).mono ?_
  rintro e w1 ⟨rfl, x1⟩
  go_wp2_with fail
  refine (qnew_any _ _).mono ?_
  rintro e w2 ⟨h, -⟩
  obtain ⟨pq, S1, rfl, Q2, x2, f2⟩ := h (by omega)
  rw [Int.toNat_natCast] at Q2
  clear h
  go_wp2_with fail
  refine (new_any _).mono ?_
  rintro e w3 ⟨pb, T1, rfl, B3, x3, g3⟩
  have Q3 := Q2.ext x3
  go_wp2_with fail
  refine (make_any _ _ _ _ B3 _).mono ?_
  rintro e w4 ⟨rfl, T, B4, x4, g4⟩
  have hST : ∀ k, S1 k → ¬ T1 k := fun k h1 h2 => by have := Q2.lt h1; have := g3 k h2; omega
  have Q4 := Q3.mod x4 hST
  have hd : ∀ k, S1 k → ¬ T k := fun k h1 h2 => by
    have h3 := Q3.lt h1
    rcases g4 k h2 with h | h
    · exact hST k h1 h
    · omega
  have X4 : Ext w w4 := ((x1.trans x2).trans x3).trans' x4 (fun k h => .inr (Nat.le_trans (x1.trans x2).size (g3 k h)))
  have gT : ∀ k, T k → w.heap.size ≤ k := fun k h => (g4 k h).elim (fun h => Nat.le_trans (x1.trans x2).size (g3 k h)) (fun h => Nat.le_trans ((x1.trans x2).trans x3).size h)
  have R0 : OrdRel l room pq pb (bmake [] 64) T w 0 (.slice none 0 0) w4 := ⟨⟨fun _ => .slice none 0 0, S1, Q4, fun k h => ⟨hd k h, Nat.le_trans x1.size (f2 k h)⟩, Own.nil _ _ _, fun a ha => absurd ha (by simp [ordE]), fun k hk => by cases hk⟩, B4, X4⟩
  have HT := Lib.hid gT
  clear hST hd gT X4 Q4 Q3 Q2 B3 B4 x1 x2 x3 x4 f2 g3 g4
  go_wp2_with fail
  go_loopw [8, 9] (fun s8 s9 wr => ∃ i : Nat, i ≤ l.length ∧ s9 = .int .i64 (i : Int) ∧ OrdRel l room pq pb (bmake [] 64) T w i s8 wr) (fun _ i _ => l.length - (intOf i).toNat)
  case atStart => exact ⟨0, Nat.zero_le _, rfl, R0⟩
  case round =>
    obtain ⟨i, hi, rfl, hr⟩ := hrel
    clear R0
    by_cases hlt : i < l.length
    · have hlt' : (i : Int) < (l.length : Int) := by omega
      have i0 := HI.out i hlt
      obtain ⟨⟨V, S, Q, hS, ro, hb8, hf8⟩, hbl, X⟩ := hr
      obtain ⟨vb, hb, c0, c1, c2, c3, c4, ib, ia, iy⟩ := (HV.out.ext X).cells hlt
      obtain ⟨vb', hb', c0', c1', c2', c3', c4', _⟩ := HV.out.cells hlt
      have hvb : vb' = vb := by
        have h := X.cell c2'
        rw [c2] at h; injection h with h; exact h.symm
      rw [hvb] at hb'
      clear c0' c1' c2' c3' c4' hvb
      have hsn := ordE_snoc (room := room) hlt
      have hln := ordE_len (room := room) (l.take i)
      rw [List.length_take] at hln
      obtain ⟨⟨bl, ea, b, y, te⟩, he⟩ : ∃ e, e = l[i] := ⟨_, rfl⟩
      obtain ⟨E, hE⟩ : ∃ E, E = ordE room (l.take i) := ⟨_, rfl⟩
      rw [← he] at hb hb' c0 c1 c3 c4 ib ia iy hsn
      rw [← hE] at hsn Q ro hb8 hln
      simp only at hb hb' c0 c1 c3 c4 ib ia iy
      have k1 := Sl.cells_eq hb
      have t1 := Sl.run_st (P := Try.prog) hb
      have lb := Sl.run_len (P := Try.prog) hb IB.und 3
      have l8 := ro.sl.run_len (P := Try.prog) IE.und 3
      have one := Sl.one hb
      obtain ⟨w0, hw0⟩ : ∃ w0, w0 = wr.alloc (.cells #[.int .i64 bl, .int .i64 ea, vb, .int .i64 y, .bool te] 65) := ⟨_, rfl⟩
      obtain ⟨gg, hg⟩ : ∃ g, g = wr.heap.size := ⟨_, rfl⟩
      have x0 : Ext wr w0 := by rw [hw0]; exact (Mod.refl _ _).alloc _
      have h0 : w0.heap[gg]? = some (.cells #[.int .i64 bl, .int .i64 ea, vb, .int .i64 y, .bool te] 65 (0, 0)) := by rw [hw0, hg]; simp only [heap_alloc_if, if_true]
      obtain ⟨w5, hw5⟩ : ∃ w5, w5 = w0.setCell ⟨gg, 0, none⟩ (.int .i64 0) := ⟨_, rfl⟩
      have x5 : Ext wr w5 := by rw [hw5, hw0, hg]; exact ((Mod.refl _ _).alloc _).setCell (.inr (Nat.le_refl _)) _
      have h5 : w5.heap[gg]? = some (.cells #[.int .i64 0, .int .i64 ea, vb, .int .i64 y, .bool te] 65 (0, 0)) := by rw [hw5]; simp [World.setCell, Array.getElem?_modify, h0]
      have d0 : w0.cell? ⟨gg, 0, none⟩ = some (.int .i64 bl) := by simp [World.cell?, h0]
      have fz : w0.frozen? ⟨gg, 0, none⟩ = false := by simp [World.frozen?, h0]
      obtain ⟨e0, e1, e2, e3, e4⟩ : w5.cell? ⟨gg, 0, none⟩ = some (.int .i64 0) ∧ w5.cell? ⟨gg, 1, none⟩ = some (.int .i64 ea) ∧ w5.cell? ⟨gg, 2, none⟩ = some vb ∧ w5.cell? ⟨gg, 3, none⟩ = some (.int .i64 y) ∧ w5.cell? ⟨gg, 4, none⟩ = some (.bool te) := by simp [World.cell?, h5]
      have Q5 := Q.ext x5
      have X5 : Ext w w5 := X.trans x5
      have hb5 := BytesAt.ext hb x5
      have ro5 := ro.ext x5
      have hbl5 := hbl.ext x5
      have hgS : ∀ k, S k → k ≠ gg := fun k h => by have := Q.lt h; omega
      have hgT : ∀ k, T k → k ≠ gg := fun k h => by have := hbl.lt h; omega
      have hle := Q.le
      have HG := Lib.hid (And.intro hw0 (And.intro hg hw5))
      have HS := Lib.hid (And.intro hsn hE)
      have QQ := Lib.hid (And.intro Q5 (And.intro X5 (And.intro hb5 (And.intro ro5 (And.intro hbl5 (And.intro hS (And.intro hb8 (And.intro hf8 (And.intro hb' (And.intro h5 (And.intro hgS hgT)))))))))))
      clear Q X hbl ro hS hb8 hf8 he hsn hw0 hg hw5 x0 x5 h0 h5 Q5 X5 hb hb' hb5 ro5 hbl5 hE hgS hgT
      go_upto_region 13 with fail
      rw [← HG.out.1, ← HG.out.2.1]
      go_upto_region 14 with fail
      rw [← HG.out.2.2]
      clear c0 c1 c2 c3 c4 d0 fz
      by_cases hgd : goodO ⟨bl, ea, b, y, te⟩
      case neg =>
        have hf : ord1 room E ⟨bl, ea, b, y, te⟩ = E := by unfold ord1; rw [if_neg hgd]
        have HF := Lib.hid hf
        have hgd2 : ea < 0 ∨ (0 ≤ ea ∧ 56 < ea) ∨ (0 ≤ ea ∧ ea ≤ 56 ∧ y < 0) ∨ (0 ≤ ea ∧ ea ≤ 56 ∧ 0 ≤ y ∧ b.length < 1) ∨ (0 ≤ ea ∧ ea ≤ 56 ∧ 0 ≤ y ∧ 1 ≤ b.length ∧ 8 < b.length) := by
          unfold goodO at hgd; simp only at hgd; omega
        clear hgd hf
        rcases hgd2 with q1 | ⟨q1, q2⟩ | ⟨q1, q2, q3⟩ | ⟨q1, q2, q3, q4⟩ | ⟨q1, q2, q3, q4, q5⟩
        case' inr.inr.inr.inl => have q4' : ¬ (1 : Int) ≤ (b.length : Int) := by omega
        case' inr.inr.inr.inr =>
          have q4' : (1 : Int) ≤ (b.length : Int) := by omega
          have q5' : ¬ (b.length : Int) ≤ 8 := by omega
        all_goals
          go_wp2_with fail
          go_roundw
          case rel => exact ⟨i + 1, by omega, by go_num, ⟨⟨V, S, by rw [HS.out.1, HF.out]; exact QQ.out.1, QQ.out.2.2.2.2.2.1, by rw [HS.out.1, HF.out]; exact QQ.out.2.2.2.1, by rw [HS.out.1, HF.out]; exact QQ.out.2.2.2.2.2.2.1, QQ.out.2.2.2.2.2.2.2.1⟩, QQ.out.2.2.2.2.1, QQ.out.2.1⟩⟩
          case measure => simp [intOf]; omega
      case pos =>
        have hE1 := qputE_good (room := room) (E := E) hgd
        have hord : ord1 room E ⟨bl, ea, b, y, te⟩ = qput room E ⟨0, ea, b, y, te⟩ := by unfold ord1; rw [if_pos hgd]; rfl
        unfold goodO at hgd
        simp only at hgd
        obtain ⟨q1, q2, q3, q4, q5⟩ := hgd
        have q4' : (1 : Int) ≤ (b.length : Int) := by omega
        have q5' : (b.length : Int) ≤ 8 := by omega
        by_cases hr : room ≤ E.length
        · have hr1 : ¬ E.length < room := by omega
          have hr2 : ¬ (E.length : Int) < (room : Int) := by omega
          rw [if_pos hr] at hE1
          have hq : qput room E ⟨0, ea, b, y, te⟩ = E := by unfold qput; rw [show qputE room E ⟨0, ea, b, y, te⟩ = 11 from hE1]; rfl
          have HF := Lib.hid (And.intro hE1 (And.intro hord hq))
          clear hE1 hord hq hr
          go_wp2_with fail
          refine (qput_any _ _ _ _ _ QQ.out.1 ⟨0, ea, b, y, te⟩ _ QQ.out.2.2.1 ⟨(show I64 0 from ⟨by decide, by decide⟩), iy⟩).mono ?_
          rintro e w6 ⟨rfl, S6, Q6, x6, f6⟩
          rw [show qputE room E ⟨0, ea, b, y, te⟩ = 11 from HF.out.1]
          rw [HF.out.2.2] at Q6
          have F6 := Lib.hid (And.intro Q6 (And.intro x6 f6))
          clear Q6 x6 f6
          go_wp2_with fail
          go_roundw
          case rel =>
            obtain ⟨Q6, x6, f6⟩ := F6.out
            obtain ⟨Q5, X5, hb5, ro5, hbl5, hS, hb8, hf8, hb', h5, hgS, hgT⟩ := QQ.out
            have eq : ordE room (l.take (i + 1)) = E := by rw [HS.out.1, HF.out.2.1, HF.out.2.2]
            have lt5 : ∀ k, T k → k < w5.heap.size := fun k h => hbl5.lt h
            refine ⟨i + 1, by omega, by go_num, ⟨⟨V, S6, by rw [eq]; exact Q6, fun k h => ?_, by rw [eq]; exact ro5.mod x6 (fun k hk => (hf8 k hk).2.1), by rw [eq]; exact hb8, fun k hk => ⟨(hf8 k hk).1, fun h => ?_, (hf8 k hk).2.2⟩⟩, hbl5.mod x6 (fun k hk h => (hS k h).1 hk), X5.trans' x6 (fun k h => .inr (hS k h).2)⟩⟩
            · rcases f6 k h with h | h
              · exact hS k h
              · exact ⟨fun ht => by have := lt5 k ht; omega, Nat.le_trans X5.size h⟩
            · rcases f6 k h with h | h
              · exact (hf8 k hk).2.1 h
              · have := ro5.lt hk; omega
          case measure => simp [intOf]; omega
        · have hr1 : E.length < room := by omega
          have hr2 : (E.length : Int) < (room : Int) := by omega
          rw [if_neg hr] at hE1
          have hq : qput room E ⟨0, ea, b, y, te⟩ = E ++ [⟨0, ea, b, y, te⟩] := by unfold qput; rw [if_pos (show qputE room E ⟨0, ea, b, y, te⟩ = 0 from hE1)]
          have HF := Lib.hid (And.intro hE1 (And.intro hord hq))
          clear hE1 hord hq hr
          go_wp2_with fail
          refine (qput_any _ _ _ _ _ QQ.out.1 ⟨0, ea, b, y, te⟩ _ QQ.out.2.2.1 ⟨(show I64 0 from ⟨by decide, by decide⟩), iy⟩).mono ?_
          rintro e w6 ⟨rfl, S6, Q6, x6, f6⟩
          rw [show qputE room E ⟨0, ea, b, y, te⟩ = 0 from HF.out.1]
          rw [HF.out.2.2] at Q6
          obtain ⟨Q5, X5, hb5, ro5, hbl5, hS, hb8, hf8, hb', h5, hgS, hgT⟩ := QQ.out
          have ro6 := ro5.mod x6 (fun k hk => (hf8 k hk).2.1)
          have h6 := x6.blk h5 (fun h => hgS _ h rfl)
          obtain ⟨e0, e1, e2, e3, e4⟩ : w6.cell? ⟨gg, 0, none⟩ = some (.int .i64 0) ∧ w6.cell? ⟨gg, 1, none⟩ = some (.int .i64 ea) ∧ w6.cell? ⟨gg, 2, none⟩ = some vb ∧ w6.cell? ⟨gg, 3, none⟩ = some (.int .i64 y) ∧ w6.cell? ⟨gg, 4, none⟩ = some (.bool te) := by simp [World.cell?, h6]
          have F6 := Lib.hid (And.intro Q6 (And.intro x6 (And.intro f6 ro6)))
          clear Q6 x6 f6 Q5 X5 hb5 ro5 hbl5 hS hb8 hf8 hb' h5 hgS hgT h6
          go_wp2_with (at_builtin; go_loud (refine wpList_app IE rfl (.tmp 113) (.tmp 115) rfl (ro6.ext (Mod.alloc (Mod.refl _ _) _)) (built_sl (n := 1) (g := w6.heap.size) (e := 65) (cs := #[.int .i64 0, .int .i64 ea, vb, .int .i64 y, .bool te]) (by simp only [heap_alloc_if, if_true]) rfl (by simp only [maxLen]; omega)) (one5v _ _ one _ _) (by simp [Act.eval]) (by simp [Act.eval]) (by omega) (by simp only [maxLen]; omega) ?_); intro lv' w7 ol7 gr7 fr7 nn7; have HH := Lib.hid (And.intro ol7 (And.intro gr7 fr7)); clear ol7 gr7 fr7 nn7)
          go_roundw
          case rel =>
            obtain ⟨ol7, gr7, fr7⟩ := HH.out
            obtain ⟨Q6, x6, f6, ro6⟩ := F6.out
            obtain ⟨Q5, X5, hb5, ro5, hbl5, hS, hb8, hf8, hb', h5, hgS, hgT⟩ := QQ.out
            have eq : ordE room (l.take (i + 1)) = E ++ [⟨0, ea, b, y, te⟩] := by rw [HS.out.1, HF.out.2.1, HF.out.2.2]
            have M7 : Mod (fun q => u8.ownBlock = some q) w6 w7 := Mod.grown (Mod.alloc (Mod.refl _ _) _) gr7 (fun q h => .inl h)
            have el : (E ++ [(⟨0, ea, b, y, te⟩ : Ent)]).length = E.length + 1 := by simp
            have n6 : ∀ k, S6 k → ¬ u8.ownBlock = some k := fun k h hk => by
              rcases f6 k h with h | h
              · exact (hf8 k hk).2.1 h
              · have := ro5.lt hk; omega
            refine ⟨i + 1, by omega, by go_num, ⟨⟨updV V E.length vb, S6, by rw [eq]; exact Q6.mod M7 n6, fun k h => ?_, by rw [eq, el, entRow_snoc]; exact ol7, ?_, fun k hk => ?_⟩, (hbl5.mod x6 (fun k hk h => (hS k h).1 hk)).mod M7 (fun k hk h => (hf8 k h).2.2 hk), (X5.trans' x6 (fun k h => .inr (hS k h).2)).trans' M7 (fun k h => .inr (hf8 k h).1)⟩⟩
            · rcases f6 k h with h | h
              · exact hS k h
              · exact ⟨fun ht => by have := hbl5.lt ht; omega, Nat.le_trans X5.size h⟩
            · rw [eq, el]
              intro a ha
              by_cases e : a = E.length
              · subst e; rw [ent_snoc, updV_same]; exact hb'
              · have ha' : a < E.length := by omega
                rw [ent_snoc_lt ha', updV_lt ha']; exact hb8 a ha'
            · rcases fr7 k hk with h | h
              · exact ⟨(hf8 k h).1, fun h6 => n6 k h6 h, (hf8 k h).2.2⟩
              · simp only [World.size_alloc] at h
                have z5 := X5.size
                have z6 := x6.size
                exact ⟨by omega, fun h6 => by have := Q6.lt h6; omega, fun ht => by have := hbl5.lt ht; omega⟩
          case measure => simp [intOf]; omega
    · have hlt' : ¬ (i : Int) < (l.length : Int) := by omega
      obtain rfl : i = l.length := by omega
      obtain ⟨⟨V, S, Q, hS, ro, hb8, hf8⟩, hbl, X⟩ := hr
      rw [List.take_length] at Q ro hb8
      obtain ⟨E, hE⟩ : ∃ E, E = ordE room l := ⟨_, rfl⟩
      have hok := ordE_ok (room := room) HV.out.by64
      rw [← hE] at Q ro hb8 hok
      obtain ⟨X0, Y0, hsee⟩ := sees_start (fun e he => (hok e he).1)
      have l8 := ro.sl.run_len (P := Try.prog) IE.und 3
      have HI8 := Lib.hid (ro.sl.run_idx (P := Try.prog) IE.und IE.size .i64)
      have R0 : OrdRel2 E room pq pb S T wr 0 wr := ⟨⟨_, S, X0, Y0, by rw [List.drop_zero]; exact Q, hbl, by rw [List.drop_zero]; exact hsee, fun _ h => h⟩, Mod.refl _ _⟩
      have hle := Q.le
      have HH := Lib.hid (And.intro Q (And.intro hS (And.intro ro (And.intro hb8 (And.intro hf8 (And.intro hbl (And.intro X hok)))))))
      clear Q hS ro hb8 hf8 hbl X hok hsee hE
      obtain ⟨wL, hwL⟩ : ∃ wL, wL = wr := ⟨_, rfl⟩
      rw [← hwL] at HH R0
      rw [← hwL]
      clear hwL
      go_wp2_with fail
      go_loopw [13] (fun s13 wr => ∃ i : Nat, i ≤ E.length ∧ s13 = .int .i64 (i : Int) ∧ OrdRel2 E room pq pb S T wL i wr) (fun i _ => E.length - (intOf i).toNat)
      case atStart => exact ⟨0, Nat.zero_le _, rfl, R0⟩
      case round =>
        obtain ⟨i, hi, rfl, hr⟩ := hrel
        clear R0
        obtain ⟨⟨m, S2, X2, Y2, Q, B, see, hsub⟩, md⟩ := hr
        have hd2 : ∀ k, S2 k → ¬ T k := fun k h => (HH.out.2.1 k (hsub k h)).1
        have MX : Ext w wr := HH.out.2.2.2.2.2.2.1.trans' md (fun k h => .inr (h.elim (fun h => (HH.out.2.1 k h).2) (HT.out k)))
        by_cases hlt : i < E.length
        · have hlt' : (i : Int) < (E.length : Int) := by omega
          have hdrop : E.drop i = ent E i :: E.drop (i + 1) := by rw [List.drop_eq_getElem_cons hlt, ent_eq hlt]
          have hok := HH.out.2.2.2.2.2.2.2 (ent E i) (by rw [ent_eq hlt]; exact List.getElem_mem hlt)
          have hb := HH.out.2.2.2.1 i hlt
          have ro := HH.out.2.2.1.mod md (fun k hk h => h.elim (HH.out.2.2.2.2.1 k hk).2.1 (HH.out.2.2.2.2.1 k hk).2.2)
          have dI := row5_cells ro hlt
          obtain ⟨⟨bl, ea, b, y, te⟩, he⟩ : ∃ e, e = ent E i := ⟨_, rfl⟩
          obtain ⟨E', hE'⟩ : ∃ E', E' = E.drop (i + 1) := ⟨_, rfl⟩
          rw [hdrop, ← he, ← hE'] at Q see
          rw [← he] at hok hb dI
          simp only at hok hb dI
          have hlen : b.length ≤ 64 := by have := hok.1.2.2.1; have := hok.1.2.1; simp only at *; omega
          have hEl : E'.length + 1 + i = E.length := by rw [hE']; simp; omega
          have lb := Sl.run_len (P := Try.prog) hb IB.und 3
          have j8 := HI8.out i hlt
          obtain ⟨D, hD⟩ : ∃ D, D = at_ u8 (i * 5) := ⟨_, rfl⟩
          rw [← hD] at j8 dI
          have ltS : ∀ k, S2 k → k < wr.heap.size := fun k h => Q.lt h
          have ltT : ∀ k, T k → k < wr.heap.size := fun k h => B.lt h
          have HE := Lib.hid (And.intro he (And.intro hE' (And.intro hD (And.intro hok (And.intro hb (And.intro hEl (And.intro ltS (And.intro ltT (And.intro md (And.intro MX (And.intro see (And.intro hsub (And.intro hd2 (And.intro ro hdrop))))))))))))))
          clear hdrop he hE' hD hok hb ro dI ltS ltT md MX see hsub hd2 HI8
          go_wp2_with fail
          refine (qlist_any _ _ _ _ _ Q).mono ?_
          rintro e w5 ⟨lk, Vk, rfl, lin, x5, fk, fk2⟩
          have Q5 := Q.ext x5
          have B5 := B.ext x5
          obtain ⟨N, hN⟩ : ∃ N, N = ((⟨bl, ea, b, y, te⟩ : Ent) :: E').length := ⟨_, rfl⟩
          have hN2 : N + i = E.length := by rw [hN]; simp; omega
          have l9 := lin.row.sl.run_len (P := Try.prog) IE.und 3
          rw [← hN] at l9
          have j9 := lin.row.sl.run_idx (P := Try.prog) IE.und IE.size .i64 0 (by simp)
          simp only [Int.natCast_zero, Nat.zero_mul] at j9
          obtain ⟨A, hA⟩ : ∃ A, A = at_ lk 0 := ⟨_, rfl⟩
          rw [← hA] at j9
          have key : ∀ w', Mod (fun k => S2 k ∨ T k) w5 w' → (w'.cell? ⟨A.block, A.off + 1, none⟩ = some (.int .i64 ea) ∧ w'.cell? ⟨A.block, A.off + 2, none⟩ = some (Vk 0) ∧ w'.cell? ⟨A.block, A.off + 3, none⟩ = some (.int .i64 y) ∧
              w'.cell? ⟨D.block, D.off + 1, none⟩ = some (.int .i64 ea) ∧ w'.cell? ⟨D.block, D.off + 2, none⟩ = some (V i) ∧ w'.cell? ⟨D.block, D.off + 3, none⟩ = some (.int .i64 y)) := fun w' M => by
            obtain ⟨he, hE', hD, hok, hb, hEl, ltS, ltT, md, MX, see, hsub, hd2, ro, hdrop⟩ := HE.out
            have r1 := lin.row.mod M (fun k hk h => by have := fk k hk; rcases h with h | h; exact absurd (ltS k h) (by omega); exact absurd (ltT k h) (by omega))
            obtain ⟨_, a1, a2, a3, _⟩ := row5_cells (E := ⟨bl, ea, b, y, te⟩ :: E') (V := Vk) r1 (i := 0) (by simp)
            rw [ent_cons_zero] at a1 a3
            simp only [Nat.zero_mul] at a1 a2 a3
            rw [← hA] at a1 a2 a3
            have r2 := (ro.ext x5).mod M (fun k hk h => (HH.out.2.2.2.2.1 k hk).2.1 (h.elim (hsub k) (fun h => absurd h (HH.out.2.2.2.2.1 k hk).2.2)))
            obtain ⟨_, b1, b2, b3, _⟩ := row5_cells r2 (HE.out.2.2.2.2.2.1 ▸ hlt : i < E.length)
            rw [← he, ← hD] at b1 b3
            rw [← hD] at b2
            exact ⟨a1, a2, a3, b1, b2, b3⟩
          have bk : ∀ w', Ext w5 w' → (BytesAt w' (Vk 0) b ∧ BytesAt w' (V i) b) := fun w' x => by
            have h1 := lin.bs 0 (by simp)
            rw [ent_cons_zero] at h1
            exact ⟨(h1.ext x).sl, BytesAt.ext HE.out.2.2.2.2.1 ((HE.out.2.2.2.2.2.2.2.2.2.1.trans x5).trans x)⟩
          obtain ⟨p1, p2, p3, p4, p5, p6⟩ := key w5 (Mod.refl _ _)
          have hw : IntKind.i64.wrap ((E.length : Int) - (i : Int)) = (N : Int) := by rw [IntWalk.i64_in _ (by omega)]; omega
          have KE := Lib.hid (And.intro key bk)
          have H5 := Lib.hid (And.intro Q5 (And.intro B5 (And.intro x5 (And.intro hA hN))))
          clear key bk lin fk fk2 Q5 B5 x5 hA hN Q B
          go_upto_region 25 with fail
          go_region_held3 (fun w' => w'.cell? ⟨A.block, A.off + 1, none⟩ = some (.int .i64 ea) ∧ w'.cell? ⟨A.block, A.off + 2, none⟩ = some (Vk 0) ∧ w'.cell? ⟨A.block, A.off + 3, none⟩ = some (.int .i64 y) ∧ w'.cell? ⟨D.block, D.off + 1, none⟩ = some (.int .i64 ea) ∧ w'.cell? ⟨D.block, D.off + 2, none⟩ = some (V i) ∧ w'.cell? ⟨D.block, D.off + 3, none⟩ = some (.int .i64 y)) (first | exact KE.out.1 _ M7 | exact KE.out.1 _ (Mod.drew (Mod.refl _ _)))
            (first | (go_at_call 16; refine (bytes_any _ _ _ b b (KE.out.2 _ (Mod.drew (Mod.refl _ _))).1 (KE.out.2 _ (Mod.drew (Mod.refl _ _))).2).mono ?_; rintro r wx ⟨rfl, rfl⟩; rw [beq_self_eq_true]) | (go_at_call 40; refine (qflush_cons _ _ _ _ _ _ _ (H5.out.1.ext (Mod.drew (Mod.refl _ _))) _ _ (H5.out.2.1.ext (Mod.drew (Mod.refl _ _))) HE.out.2.2.2.2.2.2.2.2.2.2.2.2.1).mono ?_; rintro r w7 ⟨rfl, S7, Q7, B7, m7, s7⟩; have M7 : Mod (fun k => S2 k ∨ T k) w5 w7 := (Mod.drew (Mod.refl _ _)).trans m7))
          obtain ⟨he, hE', hD, hok, hb, hEl, ltS, ltT, md, MX, see, hsub, hd2, ro, hdrop⟩ := HE.out
          have see7 := sees_flush see
          obtain ⟨c7, rB, rY⟩ := order_read see hok.2
          have k7 : ∀ w', Ext w7 w' → (w'.cell? ⟨D.block, D.off + 1, none⟩ = some (.int .i64 ea) ∧ w'.cell? ⟨D.block, D.off + 2, none⟩ = some (V i) ∧ w'.cell? ⟨D.block, D.off + 3, none⟩ = some (.int .i64 y)) := fun w' x => (fun h => ⟨h.2.2.2.1, h.2.2.2.2.1, h.2.2.2.2.2⟩) (KE.out.1 w' (M7.ext x))
          have bb : ∀ w', Ext w7 w' → BytesAt w' (V i) b := fun w' x => BytesAt.ext hb ((MX.trans H5.out.2.2.1).trans' (M7.ext x) (fun k h => .inr (h.elim (fun h => (HH.out.2.1 k (hsub k h)).2) (HT.out k))))
          have hb1 : 1 ≤ b.length := hok.2
          have K7 := Lib.hid (And.intro k7 bb)
          have H7 := Lib.hid (And.intro Q7 (And.intro B7 (And.intro M7 (And.intro s7 (And.intro rB (And.intro rY see7))))))
          clear he hE' hD hok hb hEl ltS ltT md MX see hsub hd2 ro hdrop see7 c7 rB rY k7 bb Q7 B7 M7 m7 s7 p1 p2 p3 p4 p5 p6
          obtain ⟨p4, p5, p6⟩ := K7.out.1 w7 (Mod.refl _ _)
          go_upto_region 27 with fail
          go_region_held3 (fun w' => w'.cell? ⟨D.block, D.off + 1, none⟩ = some (.int .i64 ea) ∧ w'.cell? ⟨D.block, D.off + 2, none⟩ = some (V i)) (first | exact (fun h => ⟨h.1, h.2.1⟩) (K7.out.1 _ x8) | exact (fun h => ⟨h.1, h.2.1⟩) (K7.out.1 _ (Mod.drew (Mod.refl _ _))))
            (first | (go_at_call 22; refine (read_any _ _ _ _ (H7.out.2.1.ext (Mod.drew (Mod.refl _ _))) _ _ _).mono ?_; rintro r w8 ⟨v8, y8, rfl, o8, uy8, y8x, -, -⟩; have x8 : Ext w7 w8 := (Mod.drew (Mod.refl _ _)).trans y8x))
          rw [H7.out.2.2.2.2.1] at o8
          rw [H7.out.2.2.2.2.2.1] at uy8
          have jy := uy8.sl.run_idx (P := Try.prog) II.und II.size .i64 0 (by simp; omega)
          simp only [Int.natCast_zero, Nat.zero_mul] at jy
          have cy : w8.cell? (at_ y8 0) = some (.int .i64 y) := uy8.sl.cell 0 _ (by rw [List.map_replicate, List.getElem?_replicate, if_pos (by omega)]; rfl)
          obtain ⟨r4, r5, r6⟩ := K7.out.1 w8 x8
          have HS : ∀ a, Calls Try.prog 16 #[v8, V i] (w8.drewN a) fun e w' => e = .returned (.bool true) ∧ w' = w8.drewN a := by
            intro a
            have xx : Ext w8 (w8.drewN a) := (Mod.refl _ _).drewN a
            refine (bytes_any _ _ _ b b (o8.ext xx).sl (K7.out.2 _ (x8.trans xx))).mono ?_
            rintro e w' ⟨rfl, rfl⟩
            exact ⟨by rw [beq_self_eq_true], rfl⟩
          have HB := Lib.hid HS
          have X8 := Lib.hid x8
          clear HS o8 uy8 y8x x8 p4 p5 p6
          go_wp2_with fail
          go_quiet (exact Calls.quiet_of_same (HB.out _))
          go_wp2_with fail
          go_roundw
          case rel =>
            obtain ⟨he, hE', hD, hok, hb, hEl, ltS, ltT, md, MX, see, hsub, hd2, ro, hdrop⟩ := HE.out
            obtain ⟨Q7, B7, M7, s7, rB, rY, see7⟩ := H7.out
            have xe : Ext w7 (w8.drewN nq) := X8.out.drewN nq
            exact ⟨i + 1, by omega, by go_num, ⟨⟨_, S7, X2, Y2, by rw [← hE']; exact Q7.ext xe, B7.ext xe, by rw [← hE']; exact see7, fun k h => hsub k (s7 k h)⟩, ((md.ext H5.out.2.2.1).trans' M7 (fun k h => .inl (h.imp (hsub k) id))).ext xe⟩⟩
          case measure => simp [intOf]; omega
        · have hlt' : ¬ (i : Int) < (E.length : Int) := by omega
          obtain rfl : i = E.length := by omega
          rw [List.drop_length] at Q
          clear see hsub hd2 md B HI8
          go_wp2_with fail
          refine (first19_any _).mono ?_
          rintro e w5 ⟨rfl, x5⟩
          have Q5 := Q.ext x5
          go_wp2_with fail
          refine (qflush_nil _ _ _ _ _ Q5).mono ?_
          rintro e w6 ⟨rfl, rfl⟩
          go_wp2_with fail
          refine (qlist_any _ _ _ _ _ Q5).mono ?_
          rintro e w6 ⟨lk, Vk, rfl, lin, x6, -, -⟩
          have l9 := lin.row.sl.run_len (P := Try.prog) IE.und 3
          simp only [List.length_nil, Int.natCast_zero] at l9
          have X6 := (MX.trans x5).trans x6
          clear lin x6 x5 Q5 Q MX
          go_wp2_with fail
          go_ret
          exact ⟨rfl, X6⟩
end Go.Proofs.Ytnnciakdeoopaaa
