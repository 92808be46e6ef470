/-
  The store buffers in memory; the contracts of fifo.New, fifo.copied. No condition.
-/
import Derived.Test.YtnnciakdeoopaaaBaseA
import Derived.Test.YtnnciakdeoopaaaFifoLaw
import Derived.Deep.RegionHeld3
import Derived.Laws.Rows
namespace Go.Proofs.Ytnnciakdeoopaaa
open Go.Ren Go.RowKit
set_option linter.unusedVariables false

theorem IE : EInfo Try.prog 22 65 5 56 (.agg #[.int .i64 0, .int .i64 0, .slice none 0 0, .int .i64 0, .bool false]) := ⟨Try.underlying22, by kernel_rfl, rfl, by decide⟩

/-- Cell j of an entry whose bytes lie in v. -/
def ecell (e : Ent) (v : Value) (j : Nat) : Value := if j = 0 then .int .i64 e.blk else if j = 1 then .int .i64 e.at_ else if j = 2 then v else if j = 3 then .int .i64 e.by_ else .bool e.tears
structure QueueIn (w : World) (pq : Nat) (lv : Value) (V : Nat → Value) (room : Nat) (E : List Ent) : Prop where
  box : w.heap[pq]? = some (.cells #[.int .i64 room, lv] 87 (0, 0))
  row : Own w 65 5 lv E.length (flat 5 E.length (fun i j => ecell (ent E i) (V i) j))
  bs : ∀ i, i < E.length → BytesAt w (V i) (ent E i).b
  far : ∀ i k, i < E.length → fp (V i) k → k ≠ pq ∧ lv.ownBlock ≠ some k
  ok : ∀ i, i < E.length → EOk (ent E i)
  rng : 1 ≤ room ∧ room ≤ 64
  cnt : E.length ≤ room
def QueueFp (pq : Nat) (lv : Value) (V : Nat → Value) (n : Nat) (k : Nat) : Prop := k = pq ∨ lv.ownBlock = some k ∨ ∃ i, i < n ∧ fp (V i) k
structure QueueAt (w : World) (p : Value) (room : Nat) (E : List Ent) (S : Nat → Prop) : Prop where
  ex : ∃ pq lv V, p = .pointer (some ⟨pq, 0, none⟩) ∧ QueueIn w pq lv V room E ∧ ∀ k, S k ↔ QueueFp pq lv V E.length k

theorem QueueIn.lt {w : World} {pq : Nat} {lv : Value} {V : Nat → Value} {room : Nat} {E : List Ent} (h : QueueIn w pq lv V room E) {k : Nat} (hk : QueueFp pq lv V E.length k) : k < w.heap.size := by
  rcases hk with rfl | hk | ⟨i, hi, hk⟩
  · exact lt_of_block h.box
  · exact h.row.lt hk
  · exact Sl.lt (h.bs i hi) (by decide) hk
theorem QueueIn.mod {w w' : World} {pq : Nat} {lv : Value} {V : Nat → Value} {room : Nat} {E : List Ent} {F : Nat → Prop} (h : QueueIn w pq lv V room E) (md : Mod F w w') (hF : ∀ k, QueueFp pq lv V E.length k → ¬ F k) : QueueIn w' pq lv V room E :=
  ⟨md.blk h.box (hF pq (.inl rfl)), h.row.mod md fun k hk => hF k (.inr (.inl hk)), fun i hi => BytesAt.mod (h.bs i hi) md fun k hk => hF k (.inr (.inr ⟨i, hi, hk⟩)), h.far, h.ok, h.rng, h.cnt⟩
theorem QueueAt.lt {w : World} {p : Value} {room : Nat} {E : List Ent} {S : Nat → Prop} (h : QueueAt w p room E S) {k : Nat} (hk : S k) : k < w.heap.size := by
  obtain ⟨pq, lv, V, _, hin, hS⟩ := h.ex
  exact hin.lt ((hS k).1 hk)
theorem QueueAt.mod {w w' : World} {p : Value} {room : Nat} {E : List Ent} {S F : Nat → Prop} (h : QueueAt w p room E S) (md : Mod F w w') (hF : ∀ k, S k → ¬ F k) : QueueAt w' p room E S := by
  obtain ⟨pq, lv, V, hp, hin, hS⟩ := h.ex
  exact ⟨pq, lv, V, hp, hin.mod md fun k hk => hF k ((hS k).2 hk), hS⟩
theorem QueueAt.ext {w w' : World} {p : Value} {room : Nat} {E : List Ent} {S : Nat → Prop} (h : QueueAt w p room E S) (md : Ext w w') : QueueAt w' p room E S := h.mod md fun _ _ h => h
theorem QueueIn.c0 {w : World} {pq : Nat} {lv : Value} {V : Nat → Value} {room : Nat} {E : List Ent} (h : QueueIn w pq lv V room E) : w.cell? ⟨pq, 0, none⟩ = some (.int .i64 room) := by simp [World.cell?, h.box]
theorem QueueIn.c1 {w : World} {pq : Nat} {lv : Value} {V : Nat → Value} {room : Nat} {E : List Ent} (h : QueueIn w pq lv V room E) : w.cell? ⟨pq, 1, none⟩ = some lv := by simp [World.cell?, h.box]
/-- The cells of entry i. -/
theorem QueueIn.cells {w : World} {pq : Nat} {lv : Value} {V : Nat → Value} {room : Nat} {E : List Ent} (h : QueueIn w pq lv V room E) {i : Nat} (hi : i < E.length) :
    w.cell? (at_ lv (i * 5)) = some (.int .i64 (ent E i).blk) ∧ w.cell? ⟨(at_ lv (i * 5)).block, (at_ lv (i * 5)).off + 1, none⟩ = some (.int .i64 (ent E i).at_) ∧ w.cell? ⟨(at_ lv (i * 5)).block, (at_ lv (i * 5)).off + 2, none⟩ = some (V i) ∧
    w.cell? ⟨(at_ lv (i * 5)).block, (at_ lv (i * 5)).off + 3, none⟩ = some (.int .i64 (ent E i).by_) ∧ w.cell? ⟨(at_ lv (i * 5)).block, (at_ lv (i * 5)).off + 4, none⟩ = some (.bool (ent E i).tears) := by
  have g : ∀ j, j < 5 → (flat 5 E.length (fun i j => ecell (ent E i) (V i) j))[i * 5 + j]? = some (ecell (ent E i) (V i) j) := fun j hj => flat_get (sz := 5) _ hi hj
  exact ⟨h.row.sl.cell _ _ (g 0 (by decide)), h.row.sl.cell_off (by decide) (g 1 (by decide)), h.row.sl.cell_off (by decide) (g 2 (by decide)), h.row.sl.cell_off (by decide) (g 3 (by decide)), h.row.sl.cell_off (by decide) (g 4 (by decide))⟩

theorem qnew_any (w : World) (r : Int) : Calls Try.prog 37 #[.int .i64 r] w fun e w' =>
    (1 ≤ r ∧ r ≤ 64 → ∃ pq S, e = .returned (.tuple #[.pointer (some ⟨pq, 0, none⟩), .int .i64 0]) ∧ QueueAt w' (.pointer (some ⟨pq, 0, none⟩)) r.toNat [] S ∧ Ext w w' ∧ ∀ k, S k → w.heap.size ≤ k) ∧
    (¬ (1 ≤ r ∧ r ≤ 64) → e = .returned (.tuple #[.pointer none, .int .i64 1]) ∧ w' = w) := by
  by_cases h1 : r < 1
  · refine Calls.mono (R := fun e w' => e = .returned (.tuple #[.pointer none, .int .i64 1]) ∧ w' = w) ?_ (fun e w' h => ⟨fun h' => by omega, fun _ => h⟩)
    go_enter Try.func37, Try.ntmps37
    go_wp2
    go_ret2
    exact ⟨rfl, rfl⟩
  by_cases h2 : 64 < r
  · refine Calls.mono (R := fun e w' => e = .returned (.tuple #[.pointer none, .int .i64 1]) ∧ w' = w) ?_ (fun e w' h => ⟨fun h' => by omega, fun _ => h⟩)
    go_enter Try.func37, Try.ntmps37
    go_wp2
    go_ret2
    exact ⟨rfl, rfl⟩
  obtain ⟨n, rfl⟩ := Int.eq_ofNat_of_zero_le (show 0 ≤ r by omega)
  have H : Calls Try.prog 37 #[.int .i64 (n : Int)] w fun e w' => e = .returned (.tuple #[.pointer (some ⟨w.heap.size, 0, none⟩), .int .i64 0]) ∧ w' = w.alloc (.cells #[.int .i64 (n : Int), .slice none 0 0] 87) := by
    go_enter Try.func37, Try.ntmps37
    go_wp2
    go_ret2
    exact ⟨rfl, rfl⟩
  refine H.mono ?_
  rintro e w' ⟨rfl, rfl⟩
  refine ⟨fun h => ⟨_, QueueFp w.heap.size (.slice none 0 0) (fun _ => .slice none 0 0) 0, rfl, ⟨_, _, _, rfl, ⟨by rw [heap_alloc_if, if_pos rfl, Int.toNat_natCast], Own.nil _ _ _, fun i hi => by simp at hi, fun i k hi => by simp at hi, fun i hi => by simp at hi, by omega, by simp⟩, fun k => Iff.rfl⟩, (Mod.refl _ _).alloc _, fun k hk => ?_⟩, fun h => by omega⟩
  rcases hk with rfl | hk | ⟨i, hi, _⟩
  · exact Nat.le_refl _
  · cases hk
  · omega

set_option maxRecDepth 100000 in
theorem qcopied_any (w : World) (bl a y : Int) (t : Bool) (vb : Value) (b : List UInt8) (hb : BytesAt w vb b) (hl : b.length ≤ 1000000) :
    Calls Try.prog 61 #[.agg #[.int .i64 bl, .int .i64 a, vb, .int .i64 y, .bool t]] w fun e w' => ∃ la lc, e = .returned (.agg #[.int .i64 bl, .int .i64 a, .slice la b.length lc, .int .i64 y, .bool t]) ∧ Own w' 5 1 (.slice la b.length lc) b.length (b.map bv) ∧ Ext w w' ∧ (∀ k, (Value.slice la b.length lc).ownBlock = some k → w.heap.size ≤ k) := by
  have k1 := Sl.cells_eq hb
  have t1 := Sl.run_st (P := Try.prog) hb
  go_enter Try.func61, Try.ntmps61
  go_wp2_with fail
  obtain ⟨g, hg⟩ : ∃ g, g = w.heap.size := ⟨_, rfl⟩
  obtain ⟨w0, hw0⟩ : ∃ w0, w0 = (w.alloc (.cells #[.int .i64 bl, .int .i64 a, vb, .int .i64 y, .bool t] 65)).alloc (.cells #[.int .i64 0, .int .i64 0, .slice none 0 0, .int .i64 0, .bool false] 65) := ⟨_, rfl⟩
  have x0 : Ext w w0 := by rw [hw0]; exact ((Mod.refl _ _).alloc _).alloc _
  have h0 : w0.heap[g]? = some (.cells #[.int .i64 bl, .int .i64 a, vb, .int .i64 y, .bool t] 65 (0, 0)) := by rw [hw0, hg]; exact heap_alloc2_old _ _ _
  have h1 : w0.heap[g + 1]? = some (.cells #[.int .i64 0, .int .i64 0, .slice none 0 0, .int .i64 0, .bool false] 65 (0, 0)) := by rw [hw0, hg]; exact heap_alloc2_new _ _ _
  rw [← hw0, ← hg]
  refine (clone_bytes _ _ b (BytesAt.ext hb x0) hl).mono ?_
  rintro e w1 ⟨v1, rfl, o1, x1, f1⟩
  rw [List.length_map] at o1
  obtain ⟨la, lc, hv1, _⟩ := o1.sl.shape
  subst hv1
  have b0 := x1.blk h0
  have b1 := x1.blk h1
  have hgl := lt_of_block h1
  have HG := Lib.hid (And.intro hg (And.intro x0 (And.intro x1 (And.intro o1 (And.intro f1 hgl)))))
  clear hg hw0 x0 h0 h1 o1 x1 f1 k1 t1 hb hgl
  have c0 : w1.cell? ⟨g, 0, none⟩ = some (.int .i64 bl) := by simp [World.cell?, b0]
  have c1 : w1.cell? ⟨g, 1, none⟩ = some (.int .i64 a) := by simp [World.cell?, b0]
  have c2 : w1.cell? ⟨g, 2, none⟩ = some vb := by simp [World.cell?, b0]
  have c3 : w1.cell? ⟨g, 3, none⟩ = some (.int .i64 y) := by simp [World.cell?, b0]
  have c4 : w1.cell? ⟨g, 4, none⟩ = some (.bool t) := by simp [World.cell?, b0]
  have f0 : w1.frozen? ⟨g, 2, none⟩ = false := by simp [World.frozen?, b0]
  have d0 : w1.cell? ⟨g + 1, 0, none⟩ = some (.int .i64 0) := by simp [World.cell?, b1]
  have d1 : w1.cell? ⟨g + 1, 1, none⟩ = some (.int .i64 0) := by simp [World.cell?, b1]
  have d2 : w1.cell? ⟨g + 1, 2, none⟩ = some (.slice none 0 0) := by simp [World.cell?, b1]
  have d3 : w1.cell? ⟨g + 1, 3, none⟩ = some (.int .i64 0) := by simp [World.cell?, b1]
  have d4 : w1.cell? ⟨g + 1, 4, none⟩ = some (.bool false) := by simp [World.cell?, b1]
  have e0 : w1.frozen? ⟨g + 1, 0, none⟩ = false := by simp [World.frozen?, b1]
  have e1 : w1.frozen? ⟨g + 1, 1, none⟩ = false := by simp [World.frozen?, b1]
  have e2 : w1.frozen? ⟨g + 1, 2, none⟩ = false := by simp [World.frozen?, b1]
  have e3 : w1.frozen? ⟨g + 1, 3, none⟩ = false := by simp [World.frozen?, b1]
  have e4 : w1.frozen? ⟨g + 1, 4, none⟩ = false := by simp [World.frozen?, b1]
  go_wp2_with fail
  refine bodyPost_ret (results_cell_row rfl _ _ (g + 1) 65 #[.int .i64 bl, .int .i64 a, .slice la b.length lc, .int .i64 y, .bool t] (0, 0) _ rfl (by simp [World.setCell, Array.getElem?_modify, b1]) Try.underlying65 rfl (by kernel_rfl)) rfl ?_
  obtain ⟨hg, x0, x1, o1, f1, hgl⟩ := HG.out
  have M : Mod (fun q => q = g ∨ q = g + 1) w1 ((((((w1.setCell ⟨g, 2, none⟩ (.slice la b.length lc)).setCell ⟨g + 1, 0, none⟩ (.int .i64 bl)).setCell ⟨g + 1, 1, none⟩ (.int .i64 a)).setCell ⟨g + 1, 2, none⟩ (.slice la b.length lc)).setCell ⟨g + 1, 3, none⟩ (.int .i64 y)).setCell ⟨g + 1, 4, none⟩ (.bool t)) :=
    ((((((Mod.refl _ _).setCell (.inl (.inl rfl)) _).setCell (.inl (.inr rfl)) _).setCell (.inl (.inr rfl)) _).setCell (.inl (.inr rfl)) _).setCell (.inl (.inr rfl)) _).setCell (.inl (.inr rfl)) _
  exact ⟨la, lc, rfl, o1.mod M (fun k hk h => by have := f1 k hk; omega), (x0.trans x1).trans' M (fun k h => .inr (by omega)), fun k hk => Nat.le_trans x0.size (f1 k hk)⟩
end Go.Proofs.Ytnnciakdeoopaaa
