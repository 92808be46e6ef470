/-
  The contract of rel.empty. No condition.
-/
import Derived.Test.YtkibdabbjbcboaaRelAt
namespace Go.Proofs.Ytkibdabbjbcboaa
open Go.Ren Go.RowKit
set_option linter.unusedVariables false

def rowz (r : Nat → Nat) (i j : Nat) : Value := if j < i then rowv r j else .slice none 0 0
structure EmptyRel (w0 : World) (g : Nat) (rv : Value) (n i : Nat) (wr : World) : Prop where
  ex : ∃ r : Nat → Nat, Own wr 68 1 rv n ((List.range n).map (rowz r i)) ∧ (∀ j, j < i → wr.heap[r j]? = some (.cells #[.int .u64 0] 69 (0, 0))) ∧ (∀ j k, j < i → k < i → r j = r k → j = k) ∧ ∀ j, j < i → w0.heap.size ≤ r j
  md : Mod (fun k => rv.ownBlock = some k) w0 wr

/-- A relation of the callee's own. -/
def RelPost (n : Nat) (R : Nat → Nat → Bool) (w : World) (e : Ending) (w' : World) : Prop := ∃ g rv r M, e = .returned (.pointer (some ⟨g, 0, none⟩)) ∧ RelAt w' g rv r n M ∧ (∀ a b, a < n → b < n → (M a).testBit b = R a b) ∧ Ext w w' ∧ ∀ k, RelFp g rv r n k → w.heap.size ≤ k
theorem range_map_set {f g : Nat → Value} {n i : Nat} (v : Value) (hi : i < n) (h : ∀ j, j < n → j ≠ i → f j = g j) (hv : g i = v) : ((List.range n).map f).set i v = (List.range n).map g := by
  apply List.ext_getElem?
  intro j
  rw [List.getElem?_set]
  by_cases e : i = j
  · subst e; simp [hi, hv]
  · simp only [e, if_false, List.getElem?_map]
    by_cases hj : j < n
    · simp [List.getElem?_range hj, h j hj (Ne.symm e)]
    · simp [List.getElem?_eq_none (show (List.range n).length ≤ j by simp; omega)]
set_option maxRecDepth 100000 in
set_option maxHeartbeats 800000 in
theorem rempty_any (w : World) (n : Nat) (hn : n ≤ 64) :
    Calls Try.prog 51 #[.int .i64 (n : Int)] w (RelPost n (fun _ _ => false) w) := by
  have m1 := run_make_row' (P := Try.prog) 64 68 (.slice none 0 0) 24 IRow.und IRow.info rfl .i64 .i64 n (by omega) (by omega)
  have m2 : ∀ w : World, (Instr.makeSlice 68 (.int .i64 1) (.int .i64 1)).run Try.prog w = .ok (.slice (some ⟨w.heap.size, 0, none⟩) 1 1) (w.alloc (.cells #[.int .u64 0] 69)) := fun w => by
    have h := run_make_row' (P := Try.prog) 68 69 (.int .u64 0) 8 IU.und IU.info rfl .i64 .i64 1 (by omega) (by omega) w
    have e : madeCells #[.int .u64 0] 1 = #[.int .u64 0] := by rw [← Array.toList_inj, toList_madeCells_one]; rfl
    rw [e] at h; exact h
  have HN := Lib.hid hn
  go_enter Try.func51, Try.ntmps51
  go_upto_region 2 with fail
  obtain ⟨w0, hw0⟩ : ∃ w0, w0 = (w.alloc (.cells (madeCells #[.slice none 0 0] n) 68)).alloc (.cells #[.int .i64 (n : Int), .slice (some ⟨w.heap.size, 0, none⟩) n n] 66) := ⟨_, rfl⟩
  obtain ⟨rv, hrv⟩ : ∃ rv : Value, rv = .slice (some ⟨w.heap.size, 0, none⟩) n n := ⟨_, rfl⟩
  rw [← hrv] at hw0
  rw [← hrv, ← hw0]
  obtain ⟨g, hg⟩ : ∃ g, g = w.heap.size + 1 := ⟨_, rfl⟩
  rw [← hg]
  have x0 : Ext w w0 := by rw [hw0]; exact ((Mod.refl _ _).alloc _).alloc _
  have b0 : w0.heap[g]? = some (.cells #[.int .i64 (n : Int), rv] 66 (0, 0)) := by rw [hw0, hg]; exact heap_alloc2_new _ _ _
  have o0 : Own w0 68 1 rv n ((List.range n).map (rowz (fun _ => 0) 0)) := by
    have h1 : w0.heap[w.heap.size]? = some (.cells (madeCells #[.slice none 0 0] n) 68 (0, 0)) := by rw [hw0]; exact heap_alloc2_old _ _ _
    have h2 := Own.made_at h1 (by simp [maxLen]; omega)
    rw [hrv]
    have e : (List.range n).map (rowz (fun _ => 0) 0) = List.replicate n (.slice none 0 0) := by
      apply List.ext_getElem?
      intro j
      by_cases hj : j < n
      · simp [hj, rowz]
      · simp [hj]
    rw [e]; exact h2
  have R0 : EmptyRel w0 g rv n 0 w0 := ⟨⟨fun _ => 0, o0, fun j hj => absurd hj (Nat.not_lt_zero _), fun j k hj => absurd hj (Nat.not_lt_zero _), fun j hj => absurd hj (Nat.not_lt_zero _)⟩, Mod.refl _ _⟩
  have hrb : rv.ownBlock = some w.heap.size := by rw [hrv]; rfl
  have HW := Lib.hid (And.intro x0 (And.intro b0 (And.intro hg hrb)))
  have KE : Hid (∀ w', Mod (fun k => rv.ownBlock = some k) w0 w' → w'.heap[g]? = some (.cells #[.int .i64 (n : Int), rv] 66 (0, 0)) ∧ w'.cell? ⟨g, 0, none⟩ = some (.int .i64 (n : Int)) ∧ w'.cell? ⟨g, 1, none⟩ = some rv) := Lib.hid fun w' m => by
    have hb := m.blk b0 (fun e => by rw [hrb] at e; simp at e; omega)
    exact ⟨hb, by simp [World.cell?, hb], by simp [World.cell?, hb]⟩
  have l0 := o0.sl.run_len (P := Try.prog) IRow.und 3
  have I0 := Lib.hid (o0.sl.run_idx (P := Try.prog) IRow.und IRow.size .i64)
  clear hw0 hrv hg x0 b0 o0 hrb m1
  obtain ⟨-, c0, c1⟩ := KE.out w0 (Mod.refl _ _)
  go_wp2_with fail
  clear c0 c1
  go_loopw [15] (fun s15 wr => ∃ i : Nat, i ≤ n ∧ s15 = .int .i64 (i : Int) ∧ EmptyRel w0 g rv n i wr) (fun s _ => n - (intOf s).toNat)
  case atStart => exact ⟨0, Nat.zero_le _, rfl, R0⟩
  case round =>
    obtain ⟨i, hi, rfl, ⟨⟨r, ho, hz, hinj, hfr⟩, md⟩⟩ := hrel
    clear R0
    by_cases hlt : i < n
    · have hlt' : (i : Int) < (n : Int) := by omega
      have i0 := I0.out i hlt
      simp only [Nat.mul_one] at i0
      have y0 : IntKind.i64.wrap ((n : Int) + 63) = n + 63 := IntWalk.i64_in _ (by omega)
      have y1 : ((n : Int) + 63).tdiv 64 = 1 := by rw [Int.tdiv_eq_ediv_of_nonneg (by omega)]; omega
      have y2 : ((n : Int) + 63) / 64 = 1 := by omega
      have y3 : IntKind.i64.wrap 1 = 1 := IntWalk.i64_in _ (by omega)
      have HZ : Hid (((List.range n).map (rowz r i))[i]? = some (.slice none 0 0)) := Lib.hid (by simp [hlt, rowz])
      have HR := Lib.hid (And.intro ho (And.intro hz (And.intro hinj (And.intro hfr md))))
      have KF : Hid (∀ w', Ext wr w' → w'.cell? ⟨g, 0, none⟩ = some (.int .i64 (n : Int)) ∧ w'.cell? ⟨g, 1, none⟩ = some rv) := Lib.hid fun w' x => (KE.out w' (md.ext x)).2
      clear ho hz hinj hfr md hn
      go_wp2_with fail
      refine wp_region_planL [10] [(0, 0), (1, 0), (2, 0), (3, 0), (4, 0), (5, 0), (6, 0), (7, 0), (8, 1), (9, 0), (10, 2)] (fun w' => w'.cell? ⟨g, 0, none⟩ = some (.int .i64 (n : Int)) ∧ w'.cell? ⟨g, 1, none⟩ = some rv) (by kernel_rfl) (by kernel_rfl) (by kernel_rfl) (fun _ d _ _ _ h => by cases d <;> exact h) (KF.out _ (Mod.drew (Mod.refl _ _))) ?_
      simp only [planLL, getO]
      (refine planL_take (v := ?_) (by rfl) (fun wS hS => ?_) ?_; rotate_left; (focus ((try dsimp only at hS); go_simp; (try with_reducible rfl); done)); (try simp only [Act.put, List.setIfInBounds_toArray, List.set_cons_zero, List.set_cons_succ]))
      (refine planL_take (v := ?_) (by rfl) (fun wS hS => ?_) ?_; rotate_left; (focus ((try dsimp only at hS); go_simp; (try with_reducible rfl); done)); (try simp only [Act.put, List.setIfInBounds_toArray, List.set_cons_zero, List.set_cons_succ]))
      (refine planL_take (v := ?_) (by rfl) (fun wS hS => ?_) ?_; rotate_left; (focus ((try dsimp only at hS); go_simp; (try with_reducible rfl); done)); (try simp only [Act.put, List.setIfInBounds_toArray, List.set_cons_zero, List.set_cons_succ]))
      (refine planL_take (v := ?_) (by rfl) (fun wS hS => ?_) ?_; rotate_left; (focus ((try dsimp only at hS); go_simp; (try with_reducible rfl); done)); (try simp only [Act.put, List.setIfInBounds_toArray, List.set_cons_zero, List.set_cons_succ]))
      (refine planL_take (v := ?_) (by rfl) (fun wS hS => ?_) ?_; rotate_left; (focus ((try dsimp only at hS); go_simp; (try with_reducible rfl); done)); (try simp only [Act.put, List.setIfInBounds_toArray, List.set_cons_zero, List.set_cons_succ]))
      (refine planL_take (v := ?_) (by rfl) (fun wS hS => ?_) ?_; rotate_left; (focus ((try dsimp only at hS); go_simp; (try with_reducible rfl); done)); (try simp only [Act.put, List.setIfInBounds_toArray, List.set_cons_zero, List.set_cons_succ]))
      (refine planL_take (v := ?_) (by rfl) (fun wS hS => ?_) ?_; rotate_left; (focus ((try dsimp only at hS); go_simp; (try with_reducible rfl); done)); (try simp only [Act.put, List.setIfInBounds_toArray, List.set_cons_zero, List.set_cons_succ]))
      (refine planL_take (v := ?_) (by rfl) (fun wS hS => ?_) ?_; rotate_left; (focus ((try dsimp only at hS); go_simp; (try with_reducible rfl); done)); (try simp only [Act.put, List.setIfInBounds_toArray, List.set_cons_zero, List.set_cons_succ]))
      refine planL_call (fun K hK => ?_)
      go_simp
      obtain ⟨w8, hw8⟩ : ∃ x, x = (wr.alloc (.cells #[.int .u64 0] 69)).drew := ⟨_, rfl⟩; rw [← hw8]; obtain ⟨g8, hg8⟩ : ∃ x, x = wr.heap.size := ⟨_, rfl⟩; rw [← hg8]; have x8 : Ext wr w8 := (by rw [hw8]; exact ((Mod.refl _ _).alloc _).drew); have b8 : w8.heap[g8]? = some (.cells #[.int .u64 0] 69 (0, 0)) := (by rw [hw8, hg8, heap_drew]; exact heap_alloc_new _ _); have o8 := HR.out.1.ext x8; have f8 := o8.frozen i (by omega); have c8 := o8.sl.cell i _ HZ.out; have H8 := Lib.hid (And.intro hg8 (And.intro x8 (And.intro b8 o8))); clear hw8 hg8 x8 b8 o8
      refine hK.out _ _ (KF.out _ H8.out.2.1) ?_
      clear hK K
      (try simp only [Act.put, List.setIfInBounds_toArray, List.set_cons_zero, List.set_cons_succ])
      (refine planL_take (v := ?_) (by rfl) (fun wS hS => ?_) ?_; rotate_left; (focus ((try dsimp only at hS); go_simp; (try with_reducible rfl); done)); (try simp only [Act.put, List.setIfInBounds_toArray, List.set_cons_zero, List.set_cons_succ]))
      refine planL_late (fun K hK => ?_)
      go_simp
      refine hK.out _ _ ?_
      clear hK K
      (try simp only [Act.put, List.setIfInBounds_toArray, List.set_cons_zero, List.set_cons_succ])
      refine planL_nil ?_
      go_wp2_with fail
      go_roundw
      case rel =>
        obtain ⟨hg8, x8, b8, o8⟩ := H8.out
        obtain ⟨ho, hz, hinj, hfr, md⟩ := HR.out
        have hn0 : 0 < n := by omega
        have os := o8.set hn0 i (rowv (updN r i g8) i)
        have er : rowv (updN r i g8) i = .slice (some ⟨g8, 0, none⟩) 1 1 := by simp [rowv, updN]
        have M8 : Mod (fun k => rv.ownBlock = some k) w8 (w8.setCell (at_ rv i) (rowv (updN r i g8) i)) := Mod.setCell (F := fun k => rv.ownBlock = some k) (Mod.refl _ _) (.inl (o8.at_block hn0 i)) _
        rw [er] at M8 os
        have hrl : ∀ j, j < i → r j < wr.heap.size := fun j hj => lt_of_block (hz j hj)
        refine ⟨i + 1, by omega, by go_num, ⟨⟨updN r i g8, ?_, fun j hj => ?_, fun j k hj hk he => ?_, fun j hj => ?_⟩, (md.ext x8).trans M8⟩⟩
        · rw [← range_map_set (f := rowz r i) (i := i) (.slice (some ⟨g8, 0, none⟩) 1 1) hlt (fun j hj hne => ?_) (by simp [rowz, er])]
          · exact os
          · by_cases h1 : j < i
            · simp [rowz, h1, show j < i + 1 by omega, rowv, updN, hne]
            · simp [rowz, h1, show ¬ j < i + 1 by omega]
        · by_cases e0 : j = i
          · subst e0
            simp only [updN, if_true]
            exact M8.blk b8 (fun e => o8.apart_obj b8 (by decide) e)
          · have e1 : updN r i g8 j = r j := by simp [updN, e0]
            rw [e1]
            exact M8.blk (x8.blk (hz j (by omega))) (fun e => o8.apart_obj (x8.blk (hz j (by omega))) (by decide) e)
        · by_cases ej : j = i
          · by_cases ek : k = i
            · omega
            · have h1 : updN r i g8 j = g8 := by simp [updN, ej]
              have h2 : updN r i g8 k = r k := by simp [updN, ek]
              have := hrl k (by omega)
              rw [h1, h2] at he; omega
          · by_cases ek : k = i
            · have h1 : updN r i g8 k = g8 := by simp [updN, ek]
              have h2 : updN r i g8 j = r j := by simp [updN, ej]
              have := hrl j (by omega)
              rw [h1, h2] at he; omega
            · have h1 : updN r i g8 k = r k := by simp [updN, ek]
              have h2 : updN r i g8 j = r j := by simp [updN, ej]
              rw [h1, h2] at he
              exact hinj j k (by omega) (by omega) he
        · by_cases ej : j = i
          · have h1 : updN r i g8 j = g8 := by simp [updN, ej]
            rw [h1]; have := md.size; omega
          · have h2 : updN r i g8 j = r j := by simp [updN, ej]
            rw [h2]; exact hfr j (by omega)
      case measure => simp [intOf]; omega
    · have hlt' : ¬ (i : Int) < (n : Int) := by omega
      obtain rfl : i = n := by omega
      have HR := Lib.hid (And.intro ho (And.intro hz (And.intro hinj (And.intro hfr md))))
      clear ho hz hinj hfr md
      go_wp2_with fail
      go_ret
      obtain ⟨ho, hz, hinj, hfr, md⟩ := HR.out
      obtain ⟨x0, b0, hg, hrb⟩ := HW.out
      have hs := x0.size
      refine ⟨g, rv, r, fun _ => 0, rfl, ⟨(KE.out _ md).1, ?_, hz, hinj, fun _ _ => by decide, HN.out⟩, fun a b _ _ => by simp, x0.trans' md (fun k hk => .inr (by rw [hrb] at hk; simp at hk; omega)), fun k hk => ?_⟩
      · have e : (List.range i).map (rowz r i) = (List.range i).map (rowv r) := List.map_congr_left fun j hj => by simp [rowz, List.mem_range.1 hj]
        rw [← e]; exact ho
      · rcases hk with h | h | ⟨j, hj, h⟩
        · omega
        · rw [hrb] at h; simp at h; omega
        · have := hfr j hj; omega
end Go.Proofs.Ytkibdabbjbcboaa
