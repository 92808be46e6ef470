/-
  The contract of renlaw19.same. No condition.
-/
import Derived.Test.YtnnciakdeoopaaaFifoPlain
namespace Go.Proofs.Ytnnciakdeoopaaa
open Go.Ren Go.RowKit
set_option linter.unusedVariables false
theorem row5_any {w : World} {t : TypeId} {lv : Value} {V : Nat → Value} {E : List Ent} (h : Own w t 5 lv E.length (flat 5 E.length (fun i j => ecell (ent E i) (V i) j))) {i : Nat} (hi : i < E.length) :
    w.cell? (at_ lv (i * 5)) = some (.int .i64 (ent E i).blk) ∧ w.cell? ⟨(at_ lv (i * 5)).block, (at_ lv (i * 5)).off + 1, none⟩ = some (.int .i64 (ent E i).at_) ∧ w.cell? ⟨(at_ lv (i * 5)).block, (at_ lv (i * 5)).off + 2, none⟩ = some (V i) ∧
    w.cell? ⟨(at_ lv (i * 5)).block, (at_ lv (i * 5)).off + 3, none⟩ = some (.int .i64 (ent E i).by_) ∧ w.cell? ⟨(at_ lv (i * 5)).block, (at_ lv (i * 5)).off + 4, none⟩ = some (.bool (ent E i).tears) := by
  have g : ∀ j, j < 5 → (flat 5 E.length (fun i j => ecell (ent E i) (V i) j))[i * 5 + j]? = some (ecell (ent E i) (V i) j) := fun j hj => flat_get (sz := 5) _ hi hj
  exact ⟨h.sl.cell _ _ (g 0 (by decide)), h.sl.cell_off (by decide) (g 1 (by decide)), h.sl.cell_off (by decide) (g 2 (by decide)), h.sl.cell_off (by decide) (g 3 (by decide)), h.sl.cell_off (by decide) (g 4 (by decide))⟩
set_option maxRecDepth 100000 in
set_option maxHeartbeats 1600000 in
theorem same19_any (w : World) (p q : Value) (room : Nat) (E : List Ent) (S T : Nat → Prop) (h : QueueAt w p room E S) (hx : RqAt w q room E T) :
    Calls Try.prog 46 #[p, q] w fun e w' => e = .returned (.bool true) ∧ Ext w w' := by
  have HQ := Lib.hid h
  have HX := Lib.hid hx
  obtain ⟨px, lx, Vx, rfl, hinx, _⟩ := hx.ex
  have hcn := hinx.cnt
  have hrm := hinx.rng
  have HIX := Lib.hid hinx
  clear h hx hinx
  go_enter Try.func46, Try.ntmps46
  go_wp2_with fail
  refine (qlist_any _ _ room E S HQ.out).mono ?_
  rintro e w1 ⟨v, V, rfl, l1, x1, -, -⟩
  go_wp2_with fail
  refine (rqlist_any _ _ room E T (HX.out.ext x1)).mono ?_
  rintro e w2 ⟨u, U, rfl, l2, x2, -, -⟩
  have X2 : Ext w w2 := x1.trans x2
  have r1 := (l1.ext x2).row
  have r2 := l2.row
  have n1 := r1.sl.run_len (P := Try.prog) IE.und 3
  have n2 := r2.sl.run_len (P := Try.prog) IRQ.und 3
  have HI1 := Lib.hid (r1.sl.run_idx (P := Try.prog) IE.und IE.size .i64)
  have HI2 := Lib.hid (r2.sl.run_idx (P := Try.prog) IRQ.und IRQ.size .i64)
  have KF : Hid (∀ w', Ext w2 w' → w'.cell? ⟨px, 0, none⟩ = some (.int .i64 (room : Int))) := Lib.hid fun w' x => Ext.cell (X2.trans x) HIX.out.c0
  have KQ : Hid (∀ w', Ext w2 w' → QueueAt w' p room E S) := Lib.hid fun w' x => HQ.out.ext (X2.trans x)
  have L1 := Lib.hid (l1.ext x2)
  have L2 := Lib.hid l2
  have HX2 := Lib.hid X2
  clear l1 l2 x1 x2 X2 r1 r2
  go_upto_region 2 with fail
  refine wp_region_plan [(0, true), (1, true), (2, true), (3, true), (4, true), (5, true), (6, true), (8, true), (9, true), (10, true), (11, true), (7, false), (12, true), (13, true)] (fun w' => w'.cell? ⟨px, 0, none⟩ = some (.int .i64 (room : Int))) (by kernel_rfl) (by kernel_rfl) (by kernel_rfl) (fun _ d _ _ _ h => by cases d <;> exact h) (KF.out _ (Mod.drew (Mod.refl _ _))) ?_
  simp only [planL, getO]
  iterate 11 (refine plan_take (v := ?_) (by rfl) (fun wS hS => ?_) ?_; rotate_left; (focus ((try dsimp only at hS); go_simp; (try with_reducible rfl); done)); (try simp only [Act.put, List.setIfInBounds_toArray, List.set_cons_zero, List.set_cons_succ]))
  refine plan_call (fun K hK => ?_)
  go_simp
  go_at_call 70; refine (qroom_any _ _ room E S (KQ.out _ (Mod.drew (Mod.refl _ _)))).mono ?_; rintro en v2 ⟨rfl, hv2⟩
  refine hK.out _ _ (hv2 ▸ KF.out _ (Mod.drew (Mod.refl _ _))) ?_
  clear hK K
  (try simp only [Act.put, List.setIfInBounds_toArray, List.set_cons_zero, List.set_cons_succ])
  iterate 2 (refine plan_take (v := ?_) (by rfl) (fun wS hS => ?_) ?_; rotate_left; (focus ((try dsimp only at hS); go_simp; (try with_reducible rfl); done)); (try simp only [Act.put, List.setIfInBounds_toArray, List.set_cons_zero, List.set_cons_succ]))
  refine plan_nil ?_
  have X9 : Ext w2 v2 := by rw [← hv2]; exact (Mod.refl _ _).drew
  clear hv2
  go_wp2_with fail
  go_loopw [7] (fun s wr => ∃ i : Nat, i ≤ E.length ∧ s = .int .i64 (i : Int) ∧ Ext w2 wr) (fun s _ => E.length - (intOf s).toNat)
  case atStart => exact ⟨0, Nat.zero_le _, rfl, X9⟩
  case round =>
    obtain ⟨i, hi, rfl, x⟩ := hrel
    have HXR := Lib.hid x
    by_cases hlt : i < E.length
    · have hlt' : (i : Int) < (E.length : Int) := by omega
      have i1 := HI1.out i hlt
      have i2 := HI2.out i hlt
      obtain ⟨c0, c1, c2, c3, c4⟩ := row5_any (L1.out.ext x).row hlt
      obtain ⟨d0, d1, d2, d3, d4⟩ := row5_any (L2.out.ext x).row hlt
      have hb := ((L1.out.ext x).bs i hlt).sl
      have hb2 := ((L2.out.ext x).bs i hlt).sl
      obtain ⟨e, he⟩ : ∃ e, e = ent E i := ⟨_, rfl⟩
      rw [← he] at c0 c1 c3 c4 d0 d1 d3 d4 hb hb2
      obtain ⟨bl, hbl⟩ : ∃ b, b = e.blk := ⟨_, rfl⟩
      obtain ⟨ea, hea⟩ : ∃ b, b = e.at_ := ⟨_, rfl⟩
      obtain ⟨y, hy⟩ : ∃ b, b = e.by_ := ⟨_, rfl⟩
      obtain ⟨te, hte⟩ : ∃ b, b = e.tears := ⟨_, rfl⟩
      obtain ⟨eb, heb⟩ : ∃ b, b = e.b := ⟨_, rfl⟩
      obtain ⟨A, hA⟩ : ∃ A, A = at_ v (i * 5) := ⟨_, rfl⟩
      obtain ⟨B, hB⟩ : ∃ A, A = at_ u (i * 5) := ⟨_, rfl⟩
      obtain ⟨vk, hvk⟩ : ∃ x, x = V i := ⟨_, rfl⟩
      obtain ⟨uk, huk⟩ : ∃ x, x = U i := ⟨_, rfl⟩
      rw [← hbl, ← hA] at c0; rw [← hea, ← hA] at c1; rw [← hvk, ← hA] at c2; rw [← hy, ← hA] at c3; rw [← hte, ← hA] at c4
      rw [← hbl, ← hB] at d0; rw [← hea, ← hB] at d1; rw [← huk, ← hB] at d2; rw [← hy, ← hB] at d3; rw [← hte, ← hB] at d4
      rw [← heb, ← hvk] at hb; rw [← heb, ← huk] at hb2
      rw [← hA] at i1; rw [← hB] at i2
      have k1 := Sl.cells_eq hb
      have t1 := Sl.run_st (P := Try.prog) hb
      have HBB := Lib.hid (And.intro hb hb2)
      have HDD := Lib.hid (And.intro d0 (And.intro d1 (And.intro d2 (And.intro d3 d4))))
      clear he hbl hea hy hte heb hA hB hvk huk hb hb2 x d0 d1 d2 d3 d4
      go_wp2_with fail
      refine (plain_any _ bl ea y te vk eb HBB.out.1).mono ?_
      rintro en w7 ⟨rfl, x7⟩
      obtain ⟨w8, hw8⟩ : ∃ W, W = w7.alloc (.cells #[.int .i64 bl, .int .i64 ea, vk, .int .i64 y, .bool te] 110) := ⟨_, rfl⟩
      obtain ⟨g8, hg8⟩ : ∃ g, g = w7.heap.size := ⟨_, rfl⟩
      have x8 : Ext w7 w8 := by rw [hw8]; exact (Mod.refl _ _).alloc _
      have h8 : w8.heap[g8]? = some (.cells #[.int .i64 bl, .int .i64 ea, vk, .int .i64 y, .bool te] 110 (0, 0)) := by rw [hw8, hg8]; exact heap_alloc_new _ _
      have KG : Hid (∀ w', Ext w8 w' → w'.cell? ⟨g8, 0, none⟩ = some (.int .i64 bl) ∧ w'.cell? ⟨g8, 1, none⟩ = some (.int .i64 ea) ∧ w'.cell? ⟨g8, 2, none⟩ = some vk ∧ w'.cell? ⟨g8, 3, none⟩ = some (.int .i64 y) ∧ w'.cell? ⟨g8, 4, none⟩ = some (.bool te) ∧ w'.cell? B = some (.int .i64 bl) ∧ w'.cell? ⟨B.block, B.off + 1, none⟩ = some (.int .i64 ea) ∧ w'.cell? ⟨B.block, B.off + 2, none⟩ = some uk ∧ w'.cell? ⟨B.block, B.off + 3, none⟩ = some (.int .i64 y) ∧ w'.cell? ⟨B.block, B.off + 4, none⟩ = some (.bool te)) := Lib.hid fun w' z => by
        have h9 := z.blk h8
        have xz : Ext wr w' := (x7.trans x8).trans z
        obtain ⟨d0, d1, d2, d3, d4⟩ := HDD.out
        exact ⟨by simp [World.cell?, h9], by simp [World.cell?, h9], by simp [World.cell?, h9], by simp [World.cell?, h9], by simp [World.cell?, h9], Ext.cell xz d0, Ext.cell xz d1, Ext.cell xz d2, Ext.cell xz d3, Ext.cell xz d4⟩
      have HBK : Hid (∀ w', Ext w8 w' → BytesAt w' vk eb ∧ BytesAt w' uk eb) := Lib.hid fun w' z => ⟨BytesAt.ext HBB.out.1 ((x7.trans x8).trans z), BytesAt.ext HBB.out.2 ((x7.trans x8).trans z)⟩
      have HW8 := Lib.hid (And.intro hw8 (And.intro hg8 (x7.trans x8)))
      clear hw8 hg8 x8 h8 x7 c0 c1 c2 c3 c4
      go_upto_region 8 with fail
      rw [← HW8.out.1, ← HW8.out.2.1]
      clear k1 t1
      refine wp_region_plan [(0, true), (1, true), (2, true), (3, true), (4, true), (5, true), (6, true), (7, true), (8, true), (9, true), (10, true), (11, true), (12, true), (13, true), (14, true), (15, true), (16, true), (17, true), (18, true), (19, true), (20, true), (21, true), (22, true), (23, true), (24, true), (25, true), (26, true), (27, true), (28, true), (29, true), (30, true), (31, true), (32, true), (33, true), (34, true), (35, true), (36, true), (37, true), (38, true), (39, true), (40, true), (41, true), (42, true), (43, true), (44, true), (45, true), (46, false), (47, true), (48, true)] (fun w' => w'.cell? ⟨g8, 0, none⟩ = some (.int .i64 bl) ∧ w'.cell? ⟨g8, 1, none⟩ = some (.int .i64 ea) ∧ w'.cell? ⟨g8, 2, none⟩ = some vk ∧ w'.cell? ⟨g8, 3, none⟩ = some (.int .i64 y) ∧ w'.cell? ⟨g8, 4, none⟩ = some (.bool te) ∧ w'.cell? B = some (.int .i64 bl) ∧ w'.cell? ⟨B.block, B.off + 1, none⟩ = some (.int .i64 ea) ∧ w'.cell? ⟨B.block, B.off + 2, none⟩ = some uk ∧ w'.cell? ⟨B.block, B.off + 3, none⟩ = some (.int .i64 y) ∧ w'.cell? ⟨B.block, B.off + 4, none⟩ = some (.bool te)) (by kernel_rfl) (by kernel_rfl) (by kernel_rfl) (fun _ d _ _ _ h => by cases d <;> exact h) (KG.out _ (Mod.drew (Mod.refl _ _))) ?_
      simp only [planL, getO]
      iterate 46 (refine plan_take (v := ?_) (by rfl) (fun wS hS => ?_) ?_; rotate_left; (focus ((try dsimp only at hS); go_simp; (try with_reducible rfl); done)); (try simp only [Act.put, List.setIfInBounds_toArray, List.set_cons_zero, List.set_cons_succ]))
      refine plan_call (fun K hK => ?_)
      go_simp
      go_at_call 16; refine (bytes_any _ _ _ eb eb (HBK.out _ (Mod.drew (Mod.refl _ _))).1 (HBK.out _ (Mod.drew (Mod.refl _ _))).2).mono ?_; rintro en v3 ⟨rfl, hv3⟩; rw [beq_self_eq_true]
      refine hK.out _ _ (hv3 ▸ KG.out _ (Mod.drew (Mod.refl _ _))) ?_
      clear hK K
      (try simp only [Act.put, List.setIfInBounds_toArray, List.set_cons_zero, List.set_cons_succ])
      iterate 2 (refine plan_take (v := ?_) (by rfl) (fun wS hS => ?_) ?_; rotate_left; (focus ((try dsimp only at hS); go_simp; (try with_reducible rfl); done)); (try simp only [Act.put, List.setIfInBounds_toArray, List.set_cons_zero, List.set_cons_succ]))
      refine plan_nil ?_
      have X3 : Ext w8 v3 := by rw [← hv3]; exact (Mod.refl _ _).drew
      clear hv3
      go_wp2_with fail
      go_roundw
      case rel => exact ⟨i + 1, by omega, by go_num, (HXR.out.trans HW8.out.2.2).trans X3⟩
      case measure => simp [intOf]; omega
    · have hlt' : ¬ (i : Int) < (E.length : Int) := by omega
      clear x
      go_wp2_with fail
      go_ret
      exact ⟨rfl, HX2.out.trans HXR.out⟩
end Go.Proofs.Ytnnciakdeoopaaa
