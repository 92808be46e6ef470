/-
  The document's store buffers (renref18.Queue) in memory. No condition.
-/
import Derived.Test.YtnnciakdeoopaaaBase
import Derived.Test.YtnnciakdeoopaaaFifoFlush
import Derived.Test.YtnnciakdeoopaaaFifoPut
import Derived.Test.YtnnciakdeoopaaaBaseBy
import Derived.Test.YtnnciakdeoopaaaPlanT
import Derived.Deep.RegionLaw
import Derived.BigQuiet
import Derived.BigRegion
import Derived.Deep.DeepCutAuto
namespace Go.Proofs.Ytnnciakdeoopaaa
open Go.Ren Go.RowKit
set_option linter.unusedVariables false

theorem IRQ : EInfo Try.prog 75 110 5 56 (.agg #[.int .i64 0, .int .i64 0, .slice none 0 0, .int .i64 0, .bool false]) := ⟨Try.underlying75, by kernel_rfl, rfl, by decide⟩

structure RqIn (w : World) (pq : Nat) (lv : Value) (V : Nat → Value) (room : Nat) (E : List Ent) : Prop where
  box : w.heap[pq]? = some (.cells #[.int .i64 room, lv] 77 (0, 0))
  row : Own w 110 5 lv E.length (flat 5 E.length (fun i j => ecell (ent E i) (V i) j))
  bs : ∀ i, i < E.length → BytesAt w (V i) (ent E i).b
  far : ∀ i k, i < E.length → fp (V i) k → k ≠ pq ∧ lv.ownBlock ≠ some k
  ok : ∀ i, i < E.length → EOk (ent E i)
  rng : room ≤ 64
  cnt : E.length ≤ room
def RqFp (pq : Nat) (lv : Value) (V : Nat → Value) (n : Nat) (k : Nat) : Prop := k = pq ∨ lv.ownBlock = some k ∨ ∃ i, i < n ∧ fp (V i) k
structure RqAt (w : World) (p : Value) (room : Nat) (E : List Ent) (S : Nat → Prop) : Prop where
  ex : ∃ pq lv V, p = .pointer (some ⟨pq, 0, none⟩) ∧ RqIn w pq lv V room E ∧ ∀ k, S k ↔ RqFp pq lv V E.length k

theorem RqIn.lt {w : World} {pq : Nat} {lv : Value} {V : Nat → Value} {room : Nat} {E : List Ent} (h : RqIn w pq lv V room E) {k : Nat} (hk : RqFp pq lv V E.length k) : k < w.heap.size := by
  rcases hk with rfl | hk | ⟨i, hi, hk⟩
  · exact lt_of_block h.box
  · exact h.row.lt hk
  · exact Sl.lt (h.bs i hi) (by decide) hk
theorem RqIn.mod {w w' : World} {pq : Nat} {lv : Value} {V : Nat → Value} {room : Nat} {E : List Ent} {F : Nat → Prop} (h : RqIn w pq lv V room E) (md : Mod F w w') (hF : ∀ k, RqFp pq lv V E.length k → ¬ F k) : RqIn w' pq lv V room E :=
  ⟨md.blk h.box (hF pq (.inl rfl)), h.row.mod md fun k hk => hF k (.inr (.inl hk)), fun i hi => BytesAt.mod (h.bs i hi) md fun k hk => hF k (.inr (.inr ⟨i, hi, hk⟩)), h.far, h.ok, h.rng, h.cnt⟩
theorem RqAt.lt {w : World} {p : Value} {room : Nat} {E : List Ent} {S : Nat → Prop} (h : RqAt w p room E S) {k : Nat} (hk : S k) : k < w.heap.size := by
  obtain ⟨pq, lv, V, _, hin, hS⟩ := h.ex
  exact hin.lt ((hS k).1 hk)
theorem RqAt.mod {w w' : World} {p : Value} {room : Nat} {E : List Ent} {S F : Nat → Prop} (h : RqAt w p room E S) (md : Mod F w w') (hF : ∀ k, S k → ¬ F k) : RqAt w' p room E S := by
  obtain ⟨pq, lv, V, hp, hin, hS⟩ := h.ex
  exact ⟨pq, lv, V, hp, hin.mod md fun k hk => hF k ((hS k).2 hk), hS⟩
theorem RqAt.ext {w w' : World} {p : Value} {room : Nat} {E : List Ent} {S : Nat → Prop} (h : RqAt w p room E S) (md : Ext w w') : RqAt w' p room E S := h.mod md fun _ _ h => h
theorem RqIn.c0 {w : World} {pq : Nat} {lv : Value} {V : Nat → Value} {room : Nat} {E : List Ent} (h : RqIn w pq lv V room E) : w.cell? ⟨pq, 0, none⟩ = some (.int .i64 room) := by simp [World.cell?, h.box]
theorem RqIn.c1 {w : World} {pq : Nat} {lv : Value} {V : Nat → Value} {room : Nat} {E : List Ent} (h : RqIn w pq lv V room E) : w.cell? ⟨pq, 1, none⟩ = some lv := by simp [World.cell?, h.box]
/-- The cells of entry i. -/
theorem RqIn.cells {w : World} {pq : Nat} {lv : Value} {V : Nat → Value} {room : Nat} {E : List Ent} (h : RqIn w pq lv V room E) {i : Nat} (hi : i < E.length) :
    w.cell? (at_ lv (i * 5)) = some (.int .i64 (ent E i).blk) ∧ w.cell? ⟨(at_ lv (i * 5)).block, (at_ lv (i * 5)).off + 1, none⟩ = some (.int .i64 (ent E i).at_) ∧ w.cell? ⟨(at_ lv (i * 5)).block, (at_ lv (i * 5)).off + 2, none⟩ = some (V i) ∧
    w.cell? ⟨(at_ lv (i * 5)).block, (at_ lv (i * 5)).off + 3, none⟩ = some (.int .i64 (ent E i).by_) ∧ w.cell? ⟨(at_ lv (i * 5)).block, (at_ lv (i * 5)).off + 4, none⟩ = some (.bool (ent E i).tears) := by
  have g : ∀ j, j < 5 → (flat 5 E.length (fun i j => ecell (ent E i) (V i) j))[i * 5 + j]? = some (ecell (ent E i) (V i) j) := fun j hj => flat_get (sz := 5) _ hi hj
  exact ⟨h.row.sl.cell _ _ (g 0 (by decide)), h.row.sl.cell_off (by decide) (g 1 (by decide)), h.row.sl.cell_off (by decide) (g 2 (by decide)), h.row.sl.cell_off (by decide) (g 3 (by decide)), h.row.sl.cell_off (by decide) (g 4 (by decide))⟩

/-- One entry more. -/
theorem rq_push {w wr w2 : World} {pq room : Nat} {lv lv' vb : Value} {V : Nat → Value} {E : List Ent} {e : Ent} (hin : RqIn w pq lv V room E) (x : Ext w wr) (M2 : Mod (fun q => lv.ownBlock = some q) wr w2)
    (ol : Own w2 110 5 lv' (E.length + 1) (flat 5 E.length (fun i j => ecell (ent E i) (V i) j) ++ [.int .i64 e.blk, .int .i64 e.at_, vb, .int .i64 e.by_, .bool e.tears]))
    (fr : ∀ k, lv'.ownBlock = some k → lv.ownBlock = some k ∨ wr.heap.size ≤ k) (ob : Own wr 5 1 vb e.b.length (e.b.map bv)) (nb : ∀ k, vb.ownBlock = some k → w.heap.size ≤ k) (hok : EOk e) (hc : E.length < room) :
    RqIn (w2.setCell ⟨pq, 1, none⟩ lv') pq lv' (updV V E.length vb) room (E ++ [e]) ∧ Mod (RqFp pq lv V E.length) w (w2.setCell ⟨pq, 1, none⟩ lv') ∧
      ∀ k, RqFp pq lv' (updV V E.length vb) (E ++ [e]).length k → RqFp pq lv V E.length k ∨ w.heap.size ≤ k := by
  have R0 := hin.row.ext x
  have B0 := x.blk hin.box
  have C0 := M2.blk B0 (fun h => R0.apart_obj B0 (by decide) h)
  have hlen : (E ++ [e]).length = E.length + 1 := by simp
  have Ms : Mod (fun q => q = pq) w2 (w2.setCell ⟨pq, 1, none⟩ lv') := Mod.setCell (F := fun q => q = pq) (Mod.refl _ _) (.inl rfl) _
  have hpq : pq < w.heap.size := lt_of_block hin.box
  have MT : Mod (RqFp pq lv V E.length) w (w2.setCell ⟨pq, 1, none⟩ lv') := ((x.mod (RqFp pq lv V E.length)).trans' M2 (fun i hi => .inl (.inr (.inl hi)))).trans' Ms (fun i hi => .inl (.inl hi))
  have vown : ∀ k, fp vb k → vb.ownBlock = some k := fun k hk => by
    obtain ⟨la, lc, rfl, _⟩ := ob.sl.shape
    rcases ob.2 with ⟨h, _⟩ | ⟨g, cap, cur, h, _⟩
    · rw [h] at hk; exact hk.elim
    · rw [h] at hk ⊢; simp [Value.ownBlock]; exact hk.2
  refine ⟨⟨?_, ?_, ?_, ?_, ?_, hin.rng, by rw [hlen]; omega⟩, MT, ?_⟩
  · simp [World.setCell, Array.getElem?_modify, C0]
  · rw [hlen]
    have e1 : flat 5 (E.length + 1) (fun i j => ecell (ent (E ++ [e]) i) (updV V E.length vb i) j) = flat 5 E.length (fun i j => ecell (ent E i) (V i) j) ++ [.int .i64 e.blk, .int .i64 e.at_, vb, .int .i64 e.by_, .bool e.tears] := by
      rw [flat_succ _ _ _ (by decide)]
      congr 1
      · exact flat_congr fun i j hi _ => by rw [ent_snoc_lt hi, updV_lt hi]
      · simp [List.range, List.range.loop, ecell, ent_snoc, updV_same]
    rw [e1]
    exact ol.mod Ms (fun k hk h => by subst h; exact ol.apart_obj C0 (by decide) hk)
  · intro i hi
    rw [hlen] at hi
    by_cases h : i = E.length
    · subst h
      rw [ent_snoc, updV_same]
      have h2 := ob.mod M2 (fun k hk h => ob.apart R0 (by decide) hk h)
      exact (h2.mod Ms (fun k hk h => by subst h; exact h2.apart_obj C0 (by decide) hk)).sl
    · have hi' : i < E.length := by omega
      rw [ent_snoc_lt hi', updV_lt hi']
      have hb := hin.bs i hi'
      have hf := hin.far i
      refine BytesAt.mod (BytesAt.mod (BytesAt.ext hb x) M2 (fun k hk => (hf k hi' hk).2)) Ms (fun k hk => (hf k hi' hk).1)
  · intro i k hi hk
    rw [hlen] at hi
    by_cases h : i = E.length
    · subst h
      rw [updV_same] at hk
      have hv := vown k hk
      have := nb k hv
      refine ⟨by omega, fun h => ?_⟩
      have h2 := ob.mod M2 (fun k hk h => ob.apart R0 (by decide) hk h)
      exact h2.apart ol (by decide) hv h
    · have hi' : i < E.length := by omega
      rw [updV_lt hi'] at hk
      refine ⟨(hin.far i k hi' hk).1, fun h => ?_⟩
      have := Sl.lt (hin.bs i hi') (by decide) hk
      rcases fr k h with h | h
      · exact (hin.far i k hi' hk).2 h
      · have := x.size; omega
  · intro i hi
    rw [hlen] at hi
    by_cases h : i = E.length
    · subst h; rw [ent_snoc]; exact hok
    · have hi' : i < E.length := by omega
      rw [ent_snoc_lt hi']; exact hin.ok i hi'
  · intro k hk
    rcases hk with rfl | hk | ⟨i, hi, hk⟩
    · exact .inl (.inl rfl)
    · exact (fr k hk).imp (fun h => .inr (.inl h)) (fun h => Nat.le_trans x.size h)
    · rw [hlen] at hi
      by_cases h : i = E.length
      · subst h; rw [updV_same] at hk; exact .inr (nb k (vown k hk))
      · have hi' : i < E.length := by omega
        rw [updV_lt hi'] at hk; exact .inl (.inr (.inr ⟨i, hi', hk⟩))

/-- The row of a buffer that is not empty. -/
theorem RqIn.row_some {w : World} {pq : Nat} {lv : Value} {V : Nat → Value} {room : Nat} {E : List Ent} (h : RqIn w pq lv V room E) (hn : 0 < E.length) : ∃ g cap, lv = .slice (some ⟨g, 0, none⟩) E.length cap ∧ E.length ≤ cap ∧ cap ≤ maxLen := by
  rcases h.row.2 with ⟨_, h2⟩ | ⟨g, cap, cur, rfl, _, hg, h1, h2, _⟩
  · omega
  · exact ⟨g, cap, rfl, h1, h2⟩

end Go.Proofs.Ytnnciakdeoopaaa
