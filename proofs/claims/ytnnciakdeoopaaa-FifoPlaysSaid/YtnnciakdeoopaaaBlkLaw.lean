/-
  What the blocks' calls compute, on plain lists. No condition, no program.
-/
import Derived.Test.YtnnciakdeoopaaaLib
namespace Go.Ren

/-- A block: its bytes, and by whom each was written. -/
structure Blk where
  b : List UInt8
  y : List Int
def blk (m : List Blk) (i : Nat) : Blk := m.getD i ⟨[], []⟩
theorem blk_eq {m : List Blk} {i : Nat} (h : i < m.length) : blk m i = m[i] := by simp [blk, h]
/-- What every list of blocks that the calls make meets. -/
structure BOk (m : List Blk) : Prop where
  cnt : m.length ≤ 16
  len : ∀ i, i < m.length → (blk m i).y.length = (blk m i).b.length
  top : ∀ i, i < m.length → (blk m i).b.length ≤ 256
  ok : ∀ i, i < m.length → ∀ x ∈ (blk m i).y, I64 x

def bsize (m : List Blk) (k : Int) : Int := if 0 ≤ k ∧ k < (m.length : Int) then ((blk m k.toNat).b.length : Int) else -1
def bcheck (m : List Blk) (k at_ n : Int) : Int := if bsize m k < 0 then 9 else if at_ < 0 ∨ n < 0 ∨ bsize m k < at_ ∨ bsize m k - at_ < n then 1 else 0
def bmakeE (m : List Blk) (size : Int) : Int := if size < 0 ∨ 256 < size then 1 else if 16 ≤ m.length then 11 else 0
def newBlk (size : Nat) : Blk := ⟨List.replicate size 0, List.replicate size (-1)⟩
def bmake (m : List Blk) (size : Int) : List Blk := if bmakeE m size = 0 then m ++ [newBlk size.toNat] else m
def bmakeN (m : List Blk) (size : Int) : Int := if bmakeE m size = 0 then (m.length : Int) else 0
def breadB (m : List Blk) (k at_ n : Int) : List UInt8 := if bcheck m k at_ n = 0 then cut (blk m k.toNat).b at_.toNat n.toNat else []
def breadY (m : List Blk) (k at_ n : Int) : List Int := if bcheck m k at_ n = 0 then cut (blk m k.toNat).y at_.toNat n.toNat else []
def wBlk (B : Blk) (a : Nat) (x : List UInt8) (by_ : Int) : Blk := ⟨splice B.b a x, splice B.y a (List.replicate x.length by_)⟩
def bwrite (m : List Blk) (k at_ : Int) (x : List UInt8) (by_ : Int) : List Blk :=
  if bcheck m k at_ x.length = 0 then m.set k.toNat (wBlk (blk m k.toNat) at_.toNat x by_) else m

theorem bcheck_0 {m : List Blk} {k a n : Int} (h : bcheck m k a n = 0) : 0 ≤ k ∧ k < (m.length : Int) ∧ 0 ≤ a ∧ 0 ≤ n ∧ a + n ≤ ((blk m k.toNat).b.length : Int) ∧ bsize m k = ((blk m k.toNat).b.length : Int) := by
  unfold bcheck at h
  by_cases h1 : bsize m k < 0
  · rw [if_pos h1] at h; omega
  · rw [if_neg h1] at h
    split at h
    · omega
    · rename_i h2
      unfold bsize at h1 h2 ⊢
      split at h1
      · rename_i h3
        rw [if_pos h3] at h2 ⊢
        refine ⟨h3.1, h3.2, ?_⟩
        omega
      · omega
theorem bsize_le {m : List Blk} (h : BOk m) (k : Int) : -1 ≤ bsize m k ∧ bsize m k ≤ 256 := by
  unfold bsize
  split
  · rename_i h1; have := h.top k.toNat (by omega); omega
  · omega
end Go.Ren
