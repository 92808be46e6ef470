/-
  Plain facts on blocks that are written and read whole. No condition, no program.
-/
import Derived.Test.YtnnciakdeoopaaaBlkLaw
namespace Go.Ren
set_option linter.unusedVariables false

theorem splice_get {α : Type} (L : List α) (off : Nat) (cs : List α) (h : off + cs.length ≤ L.length) (j : Nat) :
    (splice L off cs)[j]? = if off ≤ j ∧ j < off + cs.length then cs[j - off]? else L[j]? := by
  unfold splice
  have e : (L.take off).length = off := by simp; omega
  by_cases h1 : j < off
  · rw [List.getElem?_append_left (by omega), if_neg (by omega), List.getElem?_take, if_pos h1]
  · rw [List.getElem?_append_right (by omega), e]
    by_cases h2 : j < off + cs.length
    · rw [List.getElem?_append_left (by omega), if_pos (by omega)]
    · rw [List.getElem?_append_right (by omega), if_neg (by omega), List.getElem?_drop]
      congr 1; omega
theorem cut_all {α : Type} (l : List α) (n : Nat) (h : n = l.length) : cut l 0 n = l := by subst h; simp [cut]
theorem cut_splice {α : Type} (L cs : List α) (h : cs.length ≤ L.length) : cut (splice L 0 cs) 0 cs.length = cs := by
  simp [cut, splice]
theorem wBlk_b {B : Blk} {a : Nat} {x : List UInt8} {y : Int} (h : a + x.length ≤ B.b.length) : (wBlk B a x y).b.length = B.b.length := by simp only [wBlk]; exact length_splice _ _ _ h
theorem wBlk_y {B : Blk} {a : Nat} {x : List UInt8} {y : Int} (h : a + x.length ≤ B.y.length) : (wBlk B a x y).y.length = B.y.length := by simp only [wBlk]; exact length_splice _ _ _ (by simpa using h)

/-- A whole block is read. -/
theorem bread_all {m : List Blk} {k : Nat} (hk : k < m.length) (n : Nat) (hn : n = (blk m k).b.length) (hy : (blk m k).y.length = (blk m k).b.length) :
    bcheck m k 0 n = 0 ∧ breadB m k 0 n = (blk m k).b ∧ breadY m k 0 n = (blk m k).y := by
  have hs : bsize m k = ((blk m k).b.length : Int) := by unfold bsize; rw [if_pos (by omega)]; simp
  have hc : bcheck m k 0 n = 0 := by unfold bcheck; rw [hs, if_neg (by omega), if_neg (by omega)]
  refine ⟨hc, ?_, ?_⟩
  · unfold breadB; rw [if_pos hc]; simp only [Int.toNat_natCast]; exact cut_all _ _ (by simpa using hn)
  · unfold breadY; rw [if_pos hc]; simp only [Int.toNat_natCast]; exact cut_all _ _ (by simpa [hy] using hn)

/-- Two blocks of good sizes that were both written from their heads on. -/
theorem keeps_two {size other : Int} {c : List UInt8} {cy : Int} (he : bmakeE [] size = 0) (hf : bmakeE (bmake [] size) other = 0) (h1 : bcheck (bmake (bmake [] size) other) 0 0 c.length = 0)
    (h2 : bcheck (bwrite (bmake (bmake [] size) other) 0 0 c cy) 1 0 c.length = 0) :
    ∃ (z : Nat) (K0 K1 : Blk), size = z ∧ bwrite (bwrite (bmake (bmake [] size) other) 0 0 c cy) 1 0 c cy = [K0, K1] ∧ K0.b.length = z ∧ K0.y.length = z ∧ c.length ≤ K1.b.length ∧ K1.y.length = K1.b.length ∧ cut K1.b 0 c.length = c ∧ z ≤ 256 := by
  have hz : 0 ≤ size ∧ size ≤ 256 := by unfold bmakeE at he; split at he; omega; omega
  have ho : 0 ≤ other ∧ other ≤ 256 := by unfold bmakeE at hf; split at hf; omega; omega
  obtain ⟨z, rfl⟩ := Int.eq_ofNat_of_zero_le hz.1
  obtain ⟨o, rfl⟩ := Int.eq_ofNat_of_zero_le ho.1
  have e1 : bmake [] z = [newBlk z] := by unfold bmake; rw [if_pos he]; simp
  rw [e1] at hf h1 h2 ⊢
  have e2 : bmake [newBlk z] o = [newBlk z, newBlk o] := by unfold bmake; rw [if_pos hf]; simp
  rw [e2] at h1 h2 ⊢
  have e3 : bwrite [newBlk z, newBlk o] 0 0 c cy = [wBlk (newBlk z) 0 c cy, newBlk o] := by unfold bwrite; rw [if_pos h1]; rfl
  rw [e3] at h2 ⊢
  have e4 : bwrite [wBlk (newBlk z) 0 c cy, newBlk o] 1 0 c cy = [wBlk (newBlk z) 0 c cy, wBlk (newBlk o) 0 c cy] := by unfold bwrite; rw [if_pos h2]; rfl
  have l1 : c.length ≤ z := by
    have := bcheck_0 h1
    have e : (blk [newBlk z, newBlk o] (0 : Int).toNat) = newBlk z := rfl
    rw [e] at this; simp [newBlk] at this; omega
  have l2 : c.length ≤ o := by
    have := bcheck_0 h2
    have e : (blk [wBlk (newBlk z) 0 c cy, newBlk o] (1 : Int).toNat) = newBlk o := rfl
    rw [e] at this; simp [newBlk] at this; omega
  refine ⟨z, wBlk (newBlk z) 0 c cy, wBlk (newBlk o) 0 c cy, rfl, e4, ?_, ?_, ?_, ?_, ?_, by omega⟩
  · rw [wBlk_b (by simp [newBlk]; omega)]; simp [newBlk]
  · rw [wBlk_y (by simp [newBlk]; omega)]; simp [newBlk]
  · rw [wBlk_b (by simp [newBlk]; omega)]; simp [newBlk]; omega
  · rw [wBlk_b (by simp [newBlk]; omega), wBlk_y (by simp [newBlk]; omega)]; simp [newBlk]
  · exact cut_splice _ _ (by simp [newBlk]; omega)

/-- What one more write does to the first of two blocks, byte by byte. -/
theorem keeps_write {K0 K1 : Blk} {z : Nat} (hb : K0.b.length = z) (hy : K0.y.length = z) (a : Int) (b : List UInt8) (by_ : Int) :
    ∃ N0 : Blk, bwrite [K0, K1] 0 a b by_ = [N0, K1] ∧ N0.b.length = z ∧ N0.y.length = z ∧
      (∀ k : Nat, k < z → bcheck [K0, K1] 0 a b.length = 0 → a ≤ (k : Int) → (k : Int) - a < b.length → N0.b[k]? = b[((k : Int) - a).toNat]? ∧ N0.y[k]? = some by_) ∧
      (∀ k : Nat, k < z → (bcheck [K0, K1] 0 a b.length ≠ 0 ∨ (k : Int) < a ∨ (b.length : Int) ≤ (k : Int) - a) → N0.b[k]? = K0.b[k]? ∧ N0.y[k]? = K0.y[k]?) := by
  by_cases h : bcheck [K0, K1] 0 a b.length = 0
  · have e : bwrite [K0, K1] 0 a b by_ = [wBlk K0 a.toNat b by_, K1] := by unfold bwrite; rw [if_pos h]; rfl
    obtain ⟨_, _, q3, _, q5, _⟩ := bcheck_0 h
    have e0 : (blk [K0, K1] (0 : Int).toNat) = K0 := rfl
    rw [e0] at q5
    have hl : a.toNat + b.length ≤ K0.b.length := by omega
    have hl2 : a.toNat + (List.replicate b.length by_).length ≤ K0.y.length := by simp; omega
    refine ⟨_, e, by rw [wBlk_b hl, hb], by rw [wBlk_y (by omega), hy], fun k hk _ h1 h2 => ?_, fun k hk h1 => ?_⟩
    · simp only [wBlk]
      rw [splice_get _ _ _ hl, splice_get _ _ _ hl2, if_pos (by omega), if_pos (by simp; omega)]
      refine ⟨by congr 1; omega, ?_⟩
      rw [List.getElem?_replicate, if_pos (by omega)]
    · simp only [wBlk]
      have hh : (k : Int) < a ∨ (b.length : Int) ≤ (k : Int) - a := h1.resolve_left (fun hn => hn h)
      rw [splice_get _ _ _ hl, splice_get _ _ _ hl2, if_neg (by omega), if_neg (by simp; omega)]
      exact ⟨rfl, rfl⟩
  · have e : bwrite [K0, K1] 0 a b by_ = [K0, K1] := by unfold bwrite; rw [if_neg h]
    exact ⟨K0, e, hb, hy, fun k hk h0 => absurd h0 h, fun k hk _ => ⟨rfl, rfl⟩⟩
end Go.Ren
