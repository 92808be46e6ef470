/-
  The plain law of renlaw19.FifoSees: what lies over the block's bytes stays under a flush, a tear, a drain. No condition, no program.
-/
import Derived.Test.YtnnciakdeoopaaaFifoPlayLaw
import Derived.Test.YtnnciakdeoopaaaFifoPartsLaw
import Derived.Test.YtnnciakdeoopaaaBlockKeepsLaw
namespace Go.Ren
set_option linter.unusedVariables false

def In64 (e : Ent) : Prop := e.blk = 0 ∧ 0 ≤ e.at_ ∧ e.at_ + e.b.length ≤ 64 ∧ I64 e.by_
theorem splice_layB {B : List UInt8} {a : Nat} {x : List UInt8} (h : a + x.length ≤ B.length) : splice B a x = layB a x 0 B := by
  apply List.ext_getElem?
  intro j
  rw [splice_get _ _ _ h, layB_get]
  simp only [Int.zero_add]
  by_cases hj : j < B.length
  · rw [List.getElem?_eq_getElem hj, Option.map_some]
    by_cases h1 : a ≤ j ∧ j < a + x.length
    · rw [if_pos h1, if_pos (by omega), show ((j : Int) - (a : Int)).toNat = j - a by omega, List.getElem?_eq_getElem (by omega)]; rfl
    · rw [if_neg h1]
      by_cases h2 : (a : Int) ≤ j
      · rw [if_pos h2, List.getElem?_eq_none (by omega)]; rfl
      · rw [if_neg h2]
  · rw [if_neg (by omega), List.getElem?_eq_none (by omega)]; rfl
theorem splice_layY {Y : List Int} {a n : Nat} {y : Int} (h : a + n ≤ Y.length) : splice Y a (List.replicate n y) = layY a n y 0 Y := by
  apply List.ext_getElem?
  intro j
  rw [splice_get _ _ _ (by simpa using h), layY_get]
  simp only [Int.zero_add, List.length_replicate]
  by_cases hj : j < Y.length
  · rw [List.getElem?_eq_getElem hj, Option.map_some]
    by_cases h1 : a ≤ j ∧ j < a + n
    · rw [if_pos h1, if_pos (by omega), List.getElem?_replicate, if_pos (by omega)]
    · rw [if_neg h1, if_neg (by omega)]
  · rw [if_neg (by omega), List.getElem?_eq_none (by omega)]; rfl

/-- One write into the one block of 64 bytes. -/
theorem write64 {B : Blk} (hb : B.b.length = 64) (hy : B.y.length = 64) {a : Int} {x : List UInt8} (y : Int) (h1 : 0 ≤ a) (h2 : a + x.length ≤ 64) :
    bcheck [B] 0 a x.length = 0 ∧ bwrite [B] 0 a x y = [⟨layB a x 0 B.b, layY a x.length y 0 B.y⟩] := by
  obtain ⟨a, rfl⟩ := Int.eq_ofNat_of_zero_le h1
  have hs : bsize [B] 0 = 64 := by unfold bsize; rw [if_pos (by simp)]; simp [blk, hb]
  have hc : bcheck [B] 0 a x.length = 0 := by unfold bcheck; rw [hs, if_neg (by omega), if_neg (by omega)]
  refine ⟨hc, ?_⟩
  unfold bwrite
  rw [if_pos hc]
  have e : (blk [B] (0 : Int).toNat) = B := rfl
  rw [e]
  simp only [wBlk, Int.toNat_natCast, Int.toNat_zero, List.set_cons_zero]
  rw [splice_layB (by omega), splice_layY (by omega)]

structure Sees (E : List Ent) (m : List Blk) (X : List UInt8) (Y : List Int) : Prop where
  ex : ∃ B, m = [B] ∧ B.b.length = 64 ∧ B.y.length = 64 ∧ overB E 0 0 B.b = X ∧ overY E 0 0 B.y = Y
  ok : ∀ e ∈ E, In64 e
theorem layB_two {a : Int} {x : List UInt8} {n : Nat} {B : List UInt8} (hn : n ≤ x.length) : layB (a + n) (x.drop n) 0 (layB a (x.take n) 0 B) = layB a x 0 B := by
  apply List.ext_getElem?
  intro j
  rw [layB_get, layB_get, layB_get]
  cases B[j]? with
  | none => rfl
  | some u =>
    simp only [Option.map_some, Int.zero_add]
    congr 1
    by_cases h1 : a ≤ (j : Int)
    · rw [if_pos h1, if_pos h1]
      by_cases h2 : a + n ≤ (j : Int)
      · rw [if_pos h2, List.getElem?_drop, show n + ((j : Int) - (a + n)).toNat = ((j : Int) - a).toNat by omega]
        rw [List.getElem?_take, if_neg (by omega)]; rfl
      · rw [if_neg h2, List.getElem?_take, if_pos (by omega)]
    · rw [if_neg h1, if_neg h1, if_neg (by omega)]
theorem layY_two {a y : Int} {n k : Nat} {Y : List Int} (hn : n ≤ k) : layY (a + n) (k - n) y 0 (layY a n y 0 Y) = layY a k y 0 Y := by
  apply List.ext_getElem?
  intro j
  rw [layY_get, layY_get, layY_get]
  cases Y[j]? with
  | none => rfl
  | some u =>
    simp only [Option.map_some, Int.zero_add]
    congr 1
    by_cases h1 : a ≤ (j : Int) ∧ (j : Int) < a + k
    · rw [if_pos h1]
      by_cases h2 : a + n ≤ (j : Int)
      · rw [if_pos (by omega)]
      · rw [if_neg (by omega), if_pos (by omega)]
    · rw [if_neg h1, if_neg (by omega), if_neg (by omega)]
theorem sees_flush {E : List Ent} {m : List Blk} {X : List UInt8} {Y : List Int} (h : Sees E m X Y) : Sees E.tail (qflushM E m) X Y := by
  cases E with
  | nil => exact h
  | cons e E =>
    obtain ⟨B, rfl, hb, hy, h1, h2⟩ := h.ex
    obtain ⟨g1, g2, g3, g4⟩ := h.ok e (by simp)
    have hw := (write64 hb hy e.by_ g2 g3).2
    refine ⟨⟨_, (by simp only [qflushM, g1]; exact hw), by simp [layB_len, hb], by simp [layY_len, hy], ?_, ?_⟩, fun x hx => h.ok x (by simp at hx; simp [hx])⟩
    · rw [← h1]; simp [overB, List.foldl_cons, g1]
    · rw [← h2]; simp [overY, List.foldl_cons, g1]
theorem sees_tear {E : List Ent} {m : List Blk} {X : List UInt8} {Y : List Int} (h : Sees E m X Y) : Sees (qtear E) (qtearM E m) X Y := by
  cases E with
  | nil => exact h
  | cons e E =>
    by_cases ht : tearsE e = true
    · obtain ⟨B, rfl, hb, hy, h1, h2⟩ := h.ex
      obtain ⟨g1, g2, g3, g4⟩ := h.ok e (by simp)
      have hle : e.b.length / 2 ≤ e.b.length := by omega
      have hl : (e.b.take (e.b.length / 2)).length = e.b.length / 2 := by simp; omega
      have hw := (write64 hb hy (x := e.b.take (e.b.length / 2)) e.by_ g2 (by rw [hl]; omega)).2
      rw [hl] at hw
      have e1 : qtear (e :: E) = tearEnt e :: E := by simp [qtear, ht]
      have e2 : qtearM (e :: E) [B] = [⟨layB e.at_ (e.b.take (e.b.length / 2)) 0 B.b, layY e.at_ (e.b.length / 2) e.by_ 0 B.y⟩] := by simp only [qtearM, ht, if_true, g1]; exact hw
      rw [e1, e2]
      refine ⟨⟨_, rfl, by simp [layB_len, hb], by simp [layY_len, hy], ?_, ?_⟩, fun x hx => ?_⟩
      · rw [← h1]
        simp only [overB, List.foldl_cons, tearEnt, g1, if_true]
        rw [layB_two hle]
      · rw [← h2]
        simp only [overY, List.foldl_cons, tearEnt, g1, if_true, List.length_drop]
        rw [layY_two hle]
      · rcases List.mem_cons.1 hx with rfl | hx
        · refine ⟨g1, ?_, ?_, g4⟩
          · simp only [tearEnt]; omega
          · simp only [tearEnt, List.length_drop]; omega
        · exact h.ok x (by simp [hx])
    · have e1 : tearsE e = false := by simpa using ht
      have e2 : qtear (e :: E) = e :: E := by simp [qtear, e1]
      have e3 : qtearM (e :: E) m = m := by simp [qtearM, e1]
      rw [e2, e3]; exact h
theorem sees_drain {E : List Ent} {m : List Blk} {X : List UInt8} {Y : List Int} (h : Sees E m X Y) : Sees [] (qdrainM E m) X Y := by
  induction E generalizing m with
  | nil => exact h
  | cons e E ih => rw [qdrainM_cons]; exact ih (sees_flush h)
theorem sees_read {E : List Ent} {m : List Blk} {X : List UInt8} {Y : List Int} (h : Sees E m X Y) : bcheck m 0 0 64 = 0 ∧ (breadB m 0 0 64).length = 64 ∧ (breadY m 0 0 64).length = 64 ∧
    qoverB E 0 0 (breadB m 0 0 64) (breadY m 0 0 64) = X ∧ qoverY E 0 0 (breadB m 0 0 64) (breadY m 0 0 64) = Y := by
  obtain ⟨B, rfl, hb, hy, h1, h2⟩ := h.ex
  have e : blk [B] 0 = B := rfl
  obtain ⟨r1, r2, r3⟩ := bread_all (m := [B]) (k := 0) (by simp) 64 (by rw [e, hb]) (by rw [e, hb, hy])
  rw [e] at r2 r3
  have r1' : bcheck [B] 0 0 64 = 0 := r1
  have r2' : breadB [B] 0 0 64 = B.b := r2
  have r3' : breadY [B] 0 0 64 = B.y := r3
  rw [r2', r3']
  unfold qoverB qoverY
  rw [if_pos (by rw [hb, hy]), if_pos (by rw [hb, hy])]
  exact ⟨r1', hb, hy, h1, h2⟩
theorem sees_done {m : List Blk} {X : List UInt8} {Y : List Int} (h : Sees [] m X Y) : breadB m 0 0 64 = X ∧ breadY m 0 0 64 = Y := by
  obtain ⟨r1, r2, r3, r4, r5⟩ := sees_read h
  unfold qoverB at r4; unfold qoverY at r5
  rw [if_pos (by rw [r2, r3])] at r4 r5
  exact ⟨r4, r5⟩
theorem sees_lens {E : List Ent} {m : List Blk} {X : List UInt8} {Y : List Int} (h : Sees E m X Y) : X.length = 64 ∧ Y.length = 64 := by
  obtain ⟨B, rfl, hb, hy, h1, h2⟩ := h.ex
  rw [← h1, ← h2, overB_len, overY_len]; exact ⟨hb, hy⟩
theorem sees_start {E : List Ent} (hok : ∀ e ∈ E, In64 e) : ∃ X Y, Sees E (bmake [] 64) X Y := by
  have e1 : bmake [] 64 = [newBlk 64] := by unfold bmake; rw [if_pos (by decide)]; rfl
  rw [e1]
  exact ⟨_, _, ⟨_, rfl, by simp [newBlk], by simp [newBlk], rfl, rfl⟩, hok⟩
theorem sees_Yok {E : List Ent} {m : List Blk} {X : List UInt8} {Y : List Int} (h : Sees E m X Y) (hm : ∀ x ∈ breadY m 0 0 64, I64 x) : ∀ x ∈ Y, I64 x := by
  have := (sees_read h).2.2.2.2
  rw [← this]
  exact qoverY_ok (fun e he => (h.ok e he).2.2.2) hm
end Go.Ren
