/-
  FifoParts: the walk of renlaw19.FifoParts. No condition.
-/
import Derived.Test.YtnnciakdeoopaaaEnts
import Derived.Test.YtnnciakdeoopaaaFifoPartsLaw
import Derived.Test.YtnnciakdeoopaaaBlockBounds
import Derived.Deep.RegionWith
namespace Go.Proofs.Ytnnciakdeoopaaa
open Go.Ren Go.RowKit
set_option linter.unusedVariables false

theorem made_ints {w : World} {g n : Nat} (h : w.heap[g]? = some (.cells (madeCells #[.int .i64 0] n) 3 (0, 0))) (hn : n ≤ 1000000) : IntsAt w (.slice (some ⟨g, 0, none⟩) n n) (List.replicate n 0) := by
  have := Own.sl (Own.made_at h (by simp only [maxLen]; omega))
  exact ⟨by simpa [iv] using this, fun x hx => by rw [List.eq_of_mem_replicate hx]; exact ⟨by decide, by decide⟩⟩
theorem mk_ints (n : Nat) (hn : n ≤ 1000000) (w : World) : (Instr.makeSlice 26 (.int .i64 (n : Int)) (.int .i64 (n : Int))).run Try.prog w = .ok (.slice (some ⟨w.heap.size, 0, none⟩) n n) (w.alloc (.cells (madeCells #[.int .i64 0] n) 3)) :=
  run_make_row' (P := Try.prog) 26 3 (.int .i64 0) 8 II.und II.info rfl .i64 .i64 n (by omega) (by omega) w
theorem fill1_ok {E : List Ent} {e : Ent} (h : ∀ x ∈ E, x.blk = 0 ∧ 0 ≤ x.at_ ∧ x.at_ + x.b.length ≤ 64 ∧ 1 ≤ x.b.length ∧ I64 x.by_) (hy : I64 e.by_) : ∀ x ∈ fill1 E e, x.blk = 0 ∧ 0 ≤ x.at_ ∧ x.at_ + x.b.length ≤ 64 ∧ 1 ≤ x.b.length ∧ I64 x.by_ := by
  intro x hx
  unfold fill1 at hx
  split at hx
  · rename_i hf
    unfold fits64 at hf
    unfold qput at hx
    split at hx
    · rename_i h0
      have := qputE_0 h0
      simp only at this
      rcases List.mem_append.1 hx with h1 | h1
      · exact h x h1
      · simp at h1; subst h1; exact ⟨rfl, by simp only; omega, by simp only; omega, by simp only; omega, hy⟩
    · exact h x hx
  · exact h x hx
theorem fillE_ok {l : List Ent} (hl : ∀ e ∈ l, I64 e.by_) : ∀ x ∈ fillE l, x.blk = 0 ∧ 0 ≤ x.at_ ∧ x.at_ + x.b.length ≤ 64 ∧ 1 ≤ x.b.length ∧ I64 x.by_ := by
  unfold fillE
  have key : ∀ (l E : List Ent), (∀ e ∈ l, I64 e.by_) → (∀ x ∈ E, x.blk = 0 ∧ 0 ≤ x.at_ ∧ x.at_ + x.b.length ≤ 64 ∧ 1 ≤ x.b.length ∧ I64 x.by_) → ∀ x ∈ l.foldl fill1 E, x.blk = 0 ∧ 0 ≤ x.at_ ∧ x.at_ + x.b.length ≤ 64 ∧ 1 ≤ x.b.length ∧ I64 x.by_ := by
    intro l
    induction l with
    | nil => intro E _ h; exact h
    | cons e l ih => intro E hl h; exact ih _ (fun e' he => hl e' (by simp [he])) (fill1_ok h (hl e (by simp)))
  exact key l [] hl (fun x hx => by cases hx)
theorem EntsAt.by64 {w : World} {v : Value} {l : List Ent} (h : EntsAt w v l) : ∀ e ∈ l, I64 e.by_ := by
  intro e he
  obtain ⟨i, hi, rfl⟩ := List.getElem_of_mem he
  obtain ⟨_, _, _, _, _, _, _, _, _, h⟩ := h.cells hi
  exact h

set_option maxRecDepth 100000 in
set_option maxHeartbeats 1600000 in
theorem parts_all (v : Value) (l : List Ent) (a n : Int) (w : World) (hv : EntsAt w v l) :
    Calls Try.prog 3 #[v, .int .i64 a, .int .i64 n] w fun e w' => e = .returned (.bool true) ∧ Ext w w' := by
  obtain ⟨xs, hs⟩ := hv.len
  have ll := hs.run_len (P := Try.prog) IE.und 3
  have HV := Lib.hid hv
  clear hs hv
  obtain ⟨E, hE⟩ : ∃ E, E = fillE l := ⟨_, rfl⟩
  have hok : ∀ x ∈ E, x.blk = 0 ∧ 0 ≤ x.at_ ∧ x.at_ + x.b.length ≤ 64 ∧ 1 ≤ x.b.length ∧ I64 x.by_ := by rw [hE]; exact fillE_ok HV.out.by64
  have HE := Lib.hid (And.intro hE hok)
  clear hE hok
  rcases (by omega : 64 < l.length ∨ (l.length ≤ 64 ∧ a < 0) ∨ (l.length ≤ 64 ∧ 0 ≤ a ∧ n < 0) ∨ (l.length ≤ 64 ∧ 0 ≤ a ∧ 0 ≤ n ∧ 64 < a) ∨ (l.length ≤ 64 ∧ 0 ≤ a ∧ 0 ≤ n ∧ a ≤ 64 ∧ 64 - a < n) ∨ (l.length ≤ 64 ∧ 0 ≤ a ∧ 0 ≤ n ∧ a ≤ 64 ∧ n ≤ 64 - a)) with z1 | ⟨z1, z2⟩ | ⟨z1, z2, z3⟩ | ⟨z1, z2, z3, z4⟩ | ⟨z1, z2, z3, z4, z5⟩ | ⟨z1, z2, z3, z4, z5⟩
  case' inl => have y1 : (64 : Int) < (l.length : Int) := by omega
  case' inr.inl => have y1 : ¬ (64 : Int) < (l.length : Int) := by omega
  case' inr.inr.inl => have y1 : ¬ (64 : Int) < (l.length : Int) := by omega
  case' inr.inr.inr.inl => have y1 : ¬ (64 : Int) < (l.length : Int) := by omega
  case' inr.inr.inr.inr.inl =>
    have y1 : ¬ (64 : Int) < (l.length : Int) := by omega
    have hw : IntKind.i64.wrap (64 - a) = 64 - a := IntWalk.i64_in _ (by omega)
  case inr.inr.inr.inr.inr =>
    have y1 : ¬ (64 : Int) < (l.length : Int) := by omega
    have hw : IntKind.i64.wrap (64 - a) = 64 - a := IntWalk.i64_in _ (by omega)
    have hw2 : IntKind.i64.wrap (a + n) = a + n := IntWalk.i64_in _ (by omega)
    obtain ⟨a, rfl⟩ := Int.eq_ofNat_of_zero_le z2
    obtain ⟨n, rfl⟩ := Int.eq_ofNat_of_zero_le z3
    have mb : ∀ w : World, (Instr.makeSlice 27 (.int .i64 64) (.int .i64 64)).run Try.prog w = .ok (.slice (some ⟨w.heap.size, 0, none⟩) 64 64) (w.alloc (.cells (madeCells #[.int .u8 0] 64) 5)) := mk_bytes 64 (by omega)
    have mi : ∀ w : World, (Instr.makeSlice 26 (.int .i64 64) (.int .i64 64)).run Try.prog w = .ok (.slice (some ⟨w.heap.size, 0, none⟩) 64 64) (w.alloc (.cells (madeCells #[.int .i64 0] 64) 3)) := mk_ints 64 (by omega)
    have mb2 := mk_bytes n (by omega)
    have mi2 := mk_ints n (by omega)
    have han : a + n ≤ 64 := by omega
    obtain ⟨BX, hBX⟩ : ∃ X, X = qoverB E 0 0 (List.replicate 64 0) (List.replicate 64 0) := ⟨_, rfl⟩
    obtain ⟨YX, hYX⟩ : ∃ X, X = qoverY E 0 0 (List.replicate 64 0) (List.replicate 64 0) := ⟨_, rfl⟩
    have lBX : BX.length = 64 := by rw [hBX, (qover_len _ _ _ _ _).1]; simp
    have lYX : YX.length = 64 := by rw [hYX, (qover_len _ _ _ _ _).2]; simp
    have zok : ∀ k, ∀ x ∈ List.replicate k (0 : Int), I64 x := fun k x hx => by rw [List.eq_of_mem_replicate hx]; exact ⟨by decide, by decide⟩
    have yok : ∀ x ∈ YX, I64 x := by rw [hYX]; exact qoverY_ok (fun e he => (HE.out.2 e he).2.2.2.2) (zok 64)
    have pB := parts_B E a n han
    have pY := parts_Y E a n han
    have p1 := parts_1 E (fun e he => (HE.out.2 e he).1)
    rw [← hBX] at pB; rw [← hYX] at pY
    have HP := Lib.hid (And.intro hBX (And.intro hYX (And.intro pB (And.intro pY (And.intro p1 yok)))))
    clear hBX hYX pB pY p1 yok
    go_enter Try.func3, Try.ntmps3
    go_wp2_with fail
    refine (first19_any _).mono ?_
    rintro e w1 ⟨rfl, x1⟩
    go_wp2_with fail
    refine (filled_any _ _ _ (HV.out.ext x1)).mono ?_
    rintro e w2 ⟨pq, S, rfl, Q2, x2, f2⟩
    rw [← HE.out.1] at Q2
    have X2 := x1.trans x2
    clear x1 x2 f2
    go_upto_region 7 with fail
    obtain ⟨w3, hw3⟩ : ∃ w3, w3 = w2.alloc (.cells (madeCells #[.int .i64 0] 64) 3) := ⟨_, rfl⟩
    obtain ⟨gn, hgn⟩ : ∃ gn, gn = w2.heap.size := ⟨_, rfl⟩
    have x3 : Ext w2 w3 := by rw [hw3]; exact (Mod.refl _ _).alloc _
    have hn : IntsAt w3 (.slice (some ⟨gn, 0, none⟩) 64 64) (List.replicate 64 0) := made_ints (by rw [hw3, hgn]; simp only [heap_alloc_if, if_true]) (by omega)
    rw [← hw3, ← hgn]
    have Q3 := Q2.ext x3
    have X3 := X2.trans x3
    clear hw3 hgn x3 Q2 X2
    go_wp2_with fail
    refine (qover_any _ _ _ _ _ (Q3.ext ((Mod.refl _ _).alloc _)) _ _ ⟨by decide, by decide⟩ _ _ (List.replicate 64 0) (List.replicate 64 0) (made_bytes (heap_alloc_new _ _) (by omega)) (hn.ext ((Mod.refl _ _).alloc _)) (by simp) (by simp)).mono ?_
    rintro e w4 ⟨vx, ux, rfl, ovx, oux, x4, -, -⟩
    rw [← HP.out.1] at ovx; rw [← HP.out.2.1] at oux
    have X4 := (X3.alloc _).trans x4
    have Q4 := Q3.ext (((Mod.refl _ _).alloc _).trans x4)
    have hn4 := hn.ext (((Mod.refl _ _).alloc _).trans x4)
    clear X3 Q3 hn x4
    go_wp2_with fail
    go_cut [11, 12] (fun s11 s12 wx => Own wx 5 1 s11 (cut BX a n).length ((cut BX a n).map bv) ∧ Own wx 3 1 s12 (cut YX a n).length ((cut YX a n).map iv) ∧ Ext w4 wx)
    case first =>
      go_region_with (go_at_call 15; refine (qover_any _ _ _ _ _ (Q4.ext (by repeat (first | exact Mod.refl _ _ | apply Mod.drew | apply Mod.alloc))) _ _ ⟨by omega, by omega⟩ _ _ (List.replicate n 0) (List.replicate n 0) (made_bytes (by simp only [heap_alloc_if, heap_drew, World.size_alloc]; repeat (first | rfl | rw [if_pos (by omega)] | rw [if_neg (by omega)])) (by omega)) (made_ints (by simp only [heap_alloc_if, heap_drew, World.size_alloc]; repeat (first | rfl | rw [if_pos (by omega)] | rw [if_neg (by omega)])) (by omega)) (by simp; omega) (by simp; omega)).mono ?_; rintro e w5 ⟨vp, op, rfl, ovp, oop, x5, -, -⟩; rw [HP.out.2.2.1] at ovp; rw [HP.out.2.2.2.1] at oop)
      all_goals (go_wp2_with fail; go_meet; exact ⟨ovp, oop, (by repeat (first | exact Mod.refl _ _ | apply Mod.drew | apply Mod.alloc) : Ext w4 _).trans x5⟩)
    case rest =>
      obtain ⟨ovp, oop, x5⟩ := hcut
      have Q5 := Q4.ext x5
      have hn5 := hn4.ext x5
      have ovx5 := ovx.ext x5
      have oux5 := oux.ext x5
      have X5 := X4.trans x5
      have lx := ovx.sl.run_len (P := Try.prog) IB.und 3
      have ly := oux.sl.run_len (P := Try.prog) II.und 3
      have sx := ovx.sl.run_sub (P := Try.prog) IB.und IB.size .i64 .i64 a (a + n) (by omega) (by omega)
      have sy := oux.sl.run_sub (P := Try.prog) II.und II.size .i64 .i64 a (a + n) (by omega) (by omega)
      rw [lBX] at lx; rw [lYX] at ly
      simp only [Int.natCast_add] at sx sy
      have l64 : ((64 : Nat) : Int) = 64 := rfl
      rw [l64] at lx ly
      clear Q4 hn4 X4 ovx oux x5 l64 mb2 mi2
      go_wp2_with fail
      refine (qover_any _ _ _ _ _ (Q5.ext ((Mod.refl _ _).alloc _)) _ _ ⟨by decide, by decide⟩ _ _ (List.replicate 64 0) (List.replicate 64 0) (made_bytes (heap_alloc_new _ _) (by omega)) (hn5.ext ((Mod.refl _ _).alloc _)) (by simp) (by simp)).mono ?_
      rintro e w6 ⟨ve, uf, rfl, ove, ouf, x6, -, -⟩
      rw [HP.out.2.2.2.2.1.1] at ove; rw [HP.out.2.2.2.2.1.2] at ouf
      have xx : Ext wc w6 := ((Mod.refl _ _).alloc _).trans x6
      have X6 := X5.trans xx
      go_wp2_with fail
      refine (first19_any _).mono ?_
      rintro e w7 ⟨rfl, x7⟩
      have X7 := X6.trans x7
      have xy : Ext wc w7 := xx.trans x7
      go_wp2_with fail
      refine (bytes_any _ _ _ (cut BX a n) (cut BX a n) (show BytesAt w7 u11 _ from (ovp.ext xy).sl) (cut_bytes (show BytesAt w7 vx BX from (ovx5.ext xy).sl) (by omega))).mono ?_
      rintro e w8 ⟨rfl, rfl⟩
      rw [beq_self_eq_true]
      have yc : ∀ z ∈ cut YX a n, I64 z := fun z hz => HP.out.2.2.2.2.2 z (by unfold cut at hz; exact List.mem_of_mem_drop (List.mem_of_mem_take hz))
      go_wp2_with fail
      refine (ints_any _ _ _ (cut YX a n) (cut YX a n) ⟨(oop.ext xy).sl, yc⟩ (cut_ints ⟨(oux5.ext xy).sl, HP.out.2.2.2.2.2⟩ (by omega))).mono ?_
      rintro e w8 ⟨rfl, n8, rfl⟩
      rw [beq_self_eq_true]
      have ove8 := (ove.ext x7).ext ((Mod.refl NoF _).drewN n8)
      have ouf8 := (ouf.ext x7).ext ((Mod.refl NoF _).drewN n8)
      have hn8 := (hn5.ext xy).ext ((Mod.refl NoF _).drewN n8)
      have X8 := X7.drewN n8
      obtain ⟨w8, hw8⟩ : ∃ w8, w8 = w7.drewN n8 := ⟨_, rfl⟩
      rw [← hw8] at ove8 ouf8 hn8 X8 ⊢
      clear hw8 ove ouf hn5 X7 X6 X5 Q5 ovx5 oux5 ovp oop xx xy x6 x7 sx sy lx ly
      go_wp2_with fail
      refine (bytes_any _ _ _ (List.replicate 64 0) (List.replicate 64 0) (show BytesAt _ ve _ from (ove8.ext ((Mod.refl _ _).alloc _)).sl) (made_bytes (heap_alloc_new _ _) (by omega))).mono ?_
      rintro e w9 ⟨rfl, rfl⟩
      rw [beq_self_eq_true]
      go_wp2_with fail
      refine (ints_any _ _ _ (List.replicate 64 0) (List.replicate 64 0) ⟨(ouf8.ext ((Mod.refl _ _).alloc _)).sl, zok 64⟩ (hn8.ext ((Mod.refl _ _).alloc _))).mono ?_
      rintro e w9 ⟨rfl, n9, rfl⟩
      rw [beq_self_eq_true]
      go_wp2_with fail
      go_ret
      exact ⟨rfl, (X8.alloc _).drewN n9⟩
  all_goals
    go_enter Try.func3, Try.ntmps3
    go_wp2_with fail
    refine (first19_any _).mono ?_
    rintro e w1 ⟨rfl, x1⟩
    go_wp2_with fail
    refine (filled_any _ _ _ (HV.out.ext x1)).mono ?_
    rintro e w2 ⟨pq, S, rfl, Q2, x2, f2⟩
    go_wp2_with fail
    refine (first19_any _).mono ?_
    rintro e w3 ⟨rfl, x3⟩
    go_wp2_with fail
    go_ret
    exact ⟨rfl, (x1.trans x2).trans x3⟩
end Go.Proofs.Ytnnciakdeoopaaa
