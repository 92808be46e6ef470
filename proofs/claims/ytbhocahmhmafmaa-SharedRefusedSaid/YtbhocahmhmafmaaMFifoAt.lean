/-
  The store buffers in memory; the contracts of fifo.New, fifo.copied. No condition. The contract of (*fifo.Queue).Put. No condition. The contract of (*fifo.Queue).List: the entries, in memory of their own. No condition.
-/
import Derived.Test.YtbhocahmhmafmaaMBaseA
import Derived.Test.YtbhocahmhmafmaaMBlkLaw
import Derived.Deep.RegionHeld3
import Derived.Laws.Rows
import Derived.Deep.RegionLaw
import Derived.BigQuiet
import Derived.Deep.DeepCutAuto
namespace Go.Proofs.Ytbhocahmhmafmaa
open Go.Ren Go.RowKit
set_option linter.unusedVariables false

theorem IE : EInfo Try.prog 110 73 5 56 (.agg #[.int .i64 0, .int .i64 0, .slice none 0 0, .int .i64 0, .bool false]) := ⟨Try.underlying110, by kernel_rfl, rfl, by decide⟩

/-- Cell j of an entry whose bytes lie in v. -/
def ecell (e : Ent) (v : Value) (j : Nat) : Value := if j = 0 then .int .i64 e.blk else if j = 1 then .int .i64 e.at_ else if j = 2 then v else if j = 3 then .int .i64 e.by_ else .bool e.tears
structure QueueIn (w : World) (pq : Nat) (lv : Value) (V : Nat → Value) (room : Nat) (E : List Ent) : Prop where
  box : w.heap[pq]? = some (.cells #[.int .i64 room, lv] 112 (0, 0))
  row : Own w 73 5 lv E.length (flat 5 E.length (fun i j => ecell (ent E i) (V i) j))
  bs : ∀ i, i < E.length → BytesAt w (V i) (ent E i).b
  far : ∀ i k, i < E.length → fp (V i) k → k ≠ pq ∧ lv.ownBlock ≠ some k
  ok : ∀ i, i < E.length → EOk (ent E i)
  rng : 1 ≤ room ∧ room ≤ 64
  cnt : E.length ≤ room
def QueueFp (pq : Nat) (lv : Value) (V : Nat → Value) (n : Nat) (k : Nat) : Prop := k = pq ∨ lv.ownBlock = some k ∨ ∃ i, i < n ∧ fp (V i) k
structure QueueAt (w : World) (p : Value) (room : Nat) (E : List Ent) (S : Nat → Prop) : Prop where
  ex : ∃ pq lv V, p = .pointer (some ⟨pq, 0, none⟩) ∧ QueueIn w pq lv V room E ∧ ∀ k, S k ↔ QueueFp pq lv V E.length k

theorem QueueIn.lt {w : World} {pq : Nat} {lv : Value} {V : Nat → Value} {room : Nat} {E : List Ent} (h : QueueIn w pq lv V room E) {k : Nat} (hk : QueueFp pq lv V E.length k) : k < w.heap.size := by
  rcases hk with rfl | hk | ⟨i, hi, hk⟩
  · exact lt_of_block h.box
  · exact h.row.lt hk
  · exact Sl.lt (h.bs i hi) (by decide) hk
theorem QueueIn.mod {w w' : World} {pq : Nat} {lv : Value} {V : Nat → Value} {room : Nat} {E : List Ent} {F : Nat → Prop} (h : QueueIn w pq lv V room E) (md : Mod F w w') (hF : ∀ k, QueueFp pq lv V E.length k → ¬ F k) : QueueIn w' pq lv V room E :=
  ⟨md.blk h.box (hF pq (.inl rfl)), h.row.mod md fun k hk => hF k (.inr (.inl hk)), fun i hi => BytesAt.mod (h.bs i hi) md fun k hk => hF k (.inr (.inr ⟨i, hi, hk⟩)), h.far, h.ok, h.rng, h.cnt⟩
theorem QueueAt.lt {w : World} {p : Value} {room : Nat} {E : List Ent} {S : Nat → Prop} (h : QueueAt w p room E S) {k : Nat} (hk : S k) : k < w.heap.size := by
  obtain ⟨pq, lv, V, _, hin, hS⟩ := h.ex
  exact hin.lt ((hS k).1 hk)
theorem QueueAt.mod {w w' : World} {p : Value} {room : Nat} {E : List Ent} {S F : Nat → Prop} (h : QueueAt w p room E S) (md : Mod F w w') (hF : ∀ k, S k → ¬ F k) : QueueAt w' p room E S := by
  obtain ⟨pq, lv, V, hp, hin, hS⟩ := h.ex
  exact ⟨pq, lv, V, hp, hin.mod md fun k hk => hF k ((hS k).2 hk), hS⟩
theorem QueueAt.ext {w w' : World} {p : Value} {room : Nat} {E : List Ent} {S : Nat → Prop} (h : QueueAt w p room E S) (md : Ext w w') : QueueAt w' p room E S := h.mod md fun _ _ h => h
theorem QueueIn.c0 {w : World} {pq : Nat} {lv : Value} {V : Nat → Value} {room : Nat} {E : List Ent} (h : QueueIn w pq lv V room E) : w.cell? ⟨pq, 0, none⟩ = some (.int .i64 room) := by simp [World.cell?, h.box]
theorem QueueIn.c1 {w : World} {pq : Nat} {lv : Value} {V : Nat → Value} {room : Nat} {E : List Ent} (h : QueueIn w pq lv V room E) : w.cell? ⟨pq, 1, none⟩ = some lv := by simp [World.cell?, h.box]
/-- The cells of entry i. -/
theorem QueueIn.cells {w : World} {pq : Nat} {lv : Value} {V : Nat → Value} {room : Nat} {E : List Ent} (h : QueueIn w pq lv V room E) {i : Nat} (hi : i < E.length) :
    w.cell? (at_ lv (i * 5)) = some (.int .i64 (ent E i).blk) ∧ w.cell? ⟨(at_ lv (i * 5)).block, (at_ lv (i * 5)).off + 1, none⟩ = some (.int .i64 (ent E i).at_) ∧ w.cell? ⟨(at_ lv (i * 5)).block, (at_ lv (i * 5)).off + 2, none⟩ = some (V i) ∧
    w.cell? ⟨(at_ lv (i * 5)).block, (at_ lv (i * 5)).off + 3, none⟩ = some (.int .i64 (ent E i).by_) ∧ w.cell? ⟨(at_ lv (i * 5)).block, (at_ lv (i * 5)).off + 4, none⟩ = some (.bool (ent E i).tears) := by
  have g : ∀ j, j < 5 → (flat 5 E.length (fun i j => ecell (ent E i) (V i) j))[i * 5 + j]? = some (ecell (ent E i) (V i) j) := fun j hj => flat_get (sz := 5) _ hi hj
  exact ⟨h.row.sl.cell _ _ (g 0 (by decide)), h.row.sl.cell_off (by decide) (g 1 (by decide)), h.row.sl.cell_off (by decide) (g 2 (by decide)), h.row.sl.cell_off (by decide) (g 3 (by decide)), h.row.sl.cell_off (by decide) (g 4 (by decide))⟩

theorem qnew_any (w : World) (r : Int) : Calls Try.prog 46 #[.int .i64 r] w fun e w' =>
    (1 ≤ r ∧ r ≤ 64 → ∃ pq S, e = .returned (.tuple #[.pointer (some ⟨pq, 0, none⟩), .int .i64 0]) ∧ QueueAt w' (.pointer (some ⟨pq, 0, none⟩)) r.toNat [] S ∧ Ext w w' ∧ ∀ k, S k → w.heap.size ≤ k) ∧
    (¬ (1 ≤ r ∧ r ≤ 64) → e = .returned (.tuple #[.pointer none, .int .i64 1]) ∧ w' = w) := by
  by_cases h1 : r < 1
  · refine Calls.mono (R := fun e w' => e = .returned (.tuple #[.pointer none, .int .i64 1]) ∧ w' = w) ?_ (fun e w' h => ⟨fun h' => by omega, fun _ => h⟩)
    go_enter Try.func46, Try.ntmps46
    go_wp2
    go_ret2
    exact ⟨rfl, rfl⟩
  by_cases h2 : 64 < r
  · refine Calls.mono (R := fun e w' => e = .returned (.tuple #[.pointer none, .int .i64 1]) ∧ w' = w) ?_ (fun e w' h => ⟨fun h' => by omega, fun _ => h⟩)
    go_enter Try.func46, Try.ntmps46
    go_wp2
    go_ret2
    exact ⟨rfl, rfl⟩
  obtain ⟨n, rfl⟩ := Int.eq_ofNat_of_zero_le (show 0 ≤ r by omega)
  have H : Calls Try.prog 46 #[.int .i64 (n : Int)] w fun e w' => e = .returned (.tuple #[.pointer (some ⟨w.heap.size, 0, none⟩), .int .i64 0]) ∧ w' = w.alloc (.cells #[.int .i64 (n : Int), .slice none 0 0] 112) := by
    go_enter Try.func46, Try.ntmps46
    go_wp2
    go_ret2
    exact ⟨rfl, rfl⟩
  refine H.mono ?_
  rintro e w' ⟨rfl, rfl⟩
  refine ⟨fun h => ⟨_, QueueFp w.heap.size (.slice none 0 0) (fun _ => .slice none 0 0) 0, rfl, ⟨_, _, _, rfl, ⟨by rw [heap_alloc_if, if_pos rfl, Int.toNat_natCast], Own.nil _ _ _, fun i hi => by simp at hi, fun i k hi => by simp at hi, fun i hi => by simp at hi, by omega, by simp⟩, fun k => Iff.rfl⟩, (Mod.refl _ _).alloc _, fun k hk => ?_⟩, fun h => by omega⟩
  rcases hk with rfl | hk | ⟨i, hi, _⟩
  · exact Nat.le_refl _
  · cases hk
  · omega

set_option maxRecDepth 100000 in
theorem qcopied_any (w : World) (bl a y : Int) (t : Bool) (vb : Value) (b : List UInt8) (hb : BytesAt w vb b) (hl : b.length ≤ 1000000) :
    Calls Try.prog 70 #[.agg #[.int .i64 bl, .int .i64 a, vb, .int .i64 y, .bool t]] w fun e w' => ∃ la lc, e = .returned (.agg #[.int .i64 bl, .int .i64 a, .slice la b.length lc, .int .i64 y, .bool t]) ∧ Own w' 5 1 (.slice la b.length lc) b.length (b.map bv) ∧ Ext w w' ∧ (∀ k, (Value.slice la b.length lc).ownBlock = some k → w.heap.size ≤ k) := by
  have k1 := Sl.cells_eq hb
  have t1 := Sl.run_st (P := Try.prog) hb
  go_enter Try.func70, Try.ntmps70
  go_wp2_with fail
  obtain ⟨g, hg⟩ : ∃ g, g = w.heap.size := ⟨_, rfl⟩
  obtain ⟨w0, hw0⟩ : ∃ w0, w0 = (w.alloc (.cells #[.int .i64 bl, .int .i64 a, vb, .int .i64 y, .bool t] 73)).alloc (.cells #[.int .i64 0, .int .i64 0, .slice none 0 0, .int .i64 0, .bool false] 73) := ⟨_, rfl⟩
  have x0 : Ext w w0 := by rw [hw0]; exact ((Mod.refl _ _).alloc _).alloc _
  have h0 : w0.heap[g]? = some (.cells #[.int .i64 bl, .int .i64 a, vb, .int .i64 y, .bool t] 73 (0, 0)) := by rw [hw0, hg]; exact heap_alloc2_old _ _ _
  have h1 : w0.heap[g + 1]? = some (.cells #[.int .i64 0, .int .i64 0, .slice none 0 0, .int .i64 0, .bool false] 73 (0, 0)) := by rw [hw0, hg]; exact heap_alloc2_new _ _ _
  rw [← hw0, ← hg]
  refine (clone_bytes _ _ b (BytesAt.ext hb x0) hl).mono ?_
  rintro e w1 ⟨v1, rfl, o1, x1, f1⟩
  rw [List.length_map] at o1
  obtain ⟨la, lc, hv1, _⟩ := o1.sl.shape
  subst hv1
  have b0 := x1.blk h0
  have b1 := x1.blk h1
  have hgl := lt_of_block h1
  have HG := Lib.hid (And.intro hg (And.intro x0 (And.intro x1 (And.intro o1 (And.intro f1 hgl)))))
  clear hg hw0 x0 h0 h1 o1 x1 f1 k1 t1 hb hgl
  have c0 : w1.cell? ⟨g, 0, none⟩ = some (.int .i64 bl) := by simp [World.cell?, b0]
  have c1 : w1.cell? ⟨g, 1, none⟩ = some (.int .i64 a) := by simp [World.cell?, b0]
  have c2 : w1.cell? ⟨g, 2, none⟩ = some vb := by simp [World.cell?, b0]
  have c3 : w1.cell? ⟨g, 3, none⟩ = some (.int .i64 y) := by simp [World.cell?, b0]
  have c4 : w1.cell? ⟨g, 4, none⟩ = some (.bool t) := by simp [World.cell?, b0]
  have f0 : w1.frozen? ⟨g, 2, none⟩ = false := by simp [World.frozen?, b0]
  have d0 : w1.cell? ⟨g + 1, 0, none⟩ = some (.int .i64 0) := by simp [World.cell?, b1]
  have d1 : w1.cell? ⟨g + 1, 1, none⟩ = some (.int .i64 0) := by simp [World.cell?, b1]
  have d2 : w1.cell? ⟨g + 1, 2, none⟩ = some (.slice none 0 0) := by simp [World.cell?, b1]
  have d3 : w1.cell? ⟨g + 1, 3, none⟩ = some (.int .i64 0) := by simp [World.cell?, b1]
  have d4 : w1.cell? ⟨g + 1, 4, none⟩ = some (.bool false) := by simp [World.cell?, b1]
  have e0 : w1.frozen? ⟨g + 1, 0, none⟩ = false := by simp [World.frozen?, b1]
  have e1 : w1.frozen? ⟨g + 1, 1, none⟩ = false := by simp [World.frozen?, b1]
  have e2 : w1.frozen? ⟨g + 1, 2, none⟩ = false := by simp [World.frozen?, b1]
  have e3 : w1.frozen? ⟨g + 1, 3, none⟩ = false := by simp [World.frozen?, b1]
  have e4 : w1.frozen? ⟨g + 1, 4, none⟩ = false := by simp [World.frozen?, b1]
  go_wp2_with fail
  refine bodyPost_ret (results_cell_row rfl _ _ (g + 1) 73 #[.int .i64 bl, .int .i64 a, .slice la b.length lc, .int .i64 y, .bool t] (0, 0) _ rfl (by simp [World.setCell, Array.getElem?_modify, b1]) Try.underlying73 rfl (by kernel_rfl)) rfl ?_
  obtain ⟨hg, x0, x1, o1, f1, hgl⟩ := HG.out
  have M : Mod (fun q => q = g ∨ q = g + 1) w1 ((((((w1.setCell ⟨g, 2, none⟩ (.slice la b.length lc)).setCell ⟨g + 1, 0, none⟩ (.int .i64 bl)).setCell ⟨g + 1, 1, none⟩ (.int .i64 a)).setCell ⟨g + 1, 2, none⟩ (.slice la b.length lc)).setCell ⟨g + 1, 3, none⟩ (.int .i64 y)).setCell ⟨g + 1, 4, none⟩ (.bool t)) :=
    ((((((Mod.refl _ _).setCell (.inl (.inl rfl)) _).setCell (.inl (.inr rfl)) _).setCell (.inl (.inr rfl)) _).setCell (.inl (.inr rfl)) _).setCell (.inl (.inr rfl)) _).setCell (.inl (.inr rfl)) _
  exact ⟨la, lc, rfl, o1.mod M (fun k hk h => by have := f1 k hk; omega), (x0.trans x1).trans' M (fun k h => .inr (by omega)), fun k hk => Nat.le_trans x0.size (f1 k hk)⟩
end Go.Proofs.Ytbhocahmhmafmaa
namespace Go.Proofs.Ytbhocahmhmafmaa
open Go.Ren Go.RowKit
set_option linter.unusedVariables false

def updV (f : Nat → Value) (n : Nat) (v : Value) : Nat → Value := fun i => if i = n then v else f i
theorem updV_same (f : Nat → Value) (n : Nat) (v : Value) : updV f n v n = v := by simp [updV]
theorem updV_lt {f : Nat → Value} {n i : Nat} {v : Value} (h : i < n) : updV f n v i = f i := by simp [updV, show i ≠ n by omega]

theorem one5 (i1 i2 : Int) (a : Option Addr) (n c : Nat) (i3 : Int) (t : Bool) : ∀ x ∈ [Value.int .i64 i1, .int .i64 i2, .slice a n c, .int .i64 i3, .bool t], x.oneCell' = true := by
  intro x hx; simp at hx; rcases hx with rfl | rfl | rfl | rfl | rfl <;> rfl
/-- One entry more. -/
theorem queue_push {w wr w2 : World} {pq room : Nat} {lv lv' vb : Value} {V : Nat → Value} {E : List Ent} {e : Ent} (hin : QueueIn w pq lv V room E) (x : Ext w wr) (M2 : Mod (fun q => lv.ownBlock = some q) wr w2)
    (ol : Own w2 73 5 lv' (E.length + 1) (flat 5 E.length (fun i j => ecell (ent E i) (V i) j) ++ [.int .i64 e.blk, .int .i64 e.at_, vb, .int .i64 e.by_, .bool e.tears]))
    (fr : ∀ k, lv'.ownBlock = some k → lv.ownBlock = some k ∨ wr.heap.size ≤ k) (ob : Own wr 5 1 vb e.b.length (e.b.map bv)) (nb : ∀ k, vb.ownBlock = some k → w.heap.size ≤ k) (hok : EOk e) (hc : E.length < room) :
    QueueIn (w2.setCell ⟨pq, 1, none⟩ lv') pq lv' (updV V E.length vb) room (E ++ [e]) ∧ Mod (QueueFp pq lv V E.length) w (w2.setCell ⟨pq, 1, none⟩ lv') ∧
      ∀ k, QueueFp pq lv' (updV V E.length vb) (E ++ [e]).length k → QueueFp pq lv V E.length k ∨ w.heap.size ≤ k := by
  have R0 := hin.row.ext x
  have B0 := x.blk hin.box
  have C0 := M2.blk B0 (fun h => R0.apart_obj B0 (by decide) h)
  have hlen : (E ++ [e]).length = E.length + 1 := by simp
  have Ms : Mod (fun q => q = pq) w2 (w2.setCell ⟨pq, 1, none⟩ lv') := Mod.setCell (F := fun q => q = pq) (Mod.refl _ _) (.inl rfl) _
  have hpq : pq < w.heap.size := lt_of_block hin.box
  have MT : Mod (QueueFp pq lv V E.length) w (w2.setCell ⟨pq, 1, none⟩ lv') := ((x.mod (QueueFp pq lv V E.length)).trans' M2 (fun i hi => .inl (.inr (.inl hi)))).trans' Ms (fun i hi => .inl (.inl hi))
  have vown : ∀ k, fp vb k → vb.ownBlock = some k := fun k hk => by
    obtain ⟨la, lc, rfl, _⟩ := ob.sl.shape
    rcases ob.2 with ⟨h, _⟩ | ⟨g, cap, cur, h, _⟩
    · rw [h] at hk; exact hk.elim
    · rw [h] at hk ⊢; simp [Value.ownBlock]; exact hk.2
  refine ⟨⟨?_, ?_, ?_, ?_, ?_, hin.rng, by rw [hlen]; omega⟩, MT, ?_⟩
  · simp [World.setCell, Array.getElem?_modify, C0]
  · rw [hlen]
    have e1 : flat 5 (E.length + 1) (fun i j => ecell (ent (E ++ [e]) i) (updV V E.length vb i) j) = flat 5 E.length (fun i j => ecell (ent E i) (V i) j) ++ [.int .i64 e.blk, .int .i64 e.at_, vb, .int .i64 e.by_, .bool e.tears] := by
      rw [flat_succ _ _ _ (by decide)]
      congr 1
      · exact flat_congr fun i j hi _ => by rw [ent_snoc_lt hi, updV_lt hi]
      · simp [List.range, List.range.loop, ecell, ent_snoc, updV_same]
    rw [e1]
    exact ol.mod Ms (fun k hk h => by subst h; exact ol.apart_obj C0 (by decide) hk)
  · intro i hi
    rw [hlen] at hi
    by_cases h : i = E.length
    · subst h
      rw [ent_snoc, updV_same]
      have h2 := ob.mod M2 (fun k hk h => ob.apart R0 (by decide) hk h)
      exact (h2.mod Ms (fun k hk h => by subst h; exact h2.apart_obj C0 (by decide) hk)).sl
    · have hi' : i < E.length := by omega
      rw [ent_snoc_lt hi', updV_lt hi']
      have hb := hin.bs i hi'
      have hf := hin.far i
      refine BytesAt.mod (BytesAt.mod (BytesAt.ext hb x) M2 (fun k hk => (hf k hi' hk).2)) Ms (fun k hk => (hf k hi' hk).1)
  · intro i k hi hk
    rw [hlen] at hi
    by_cases h : i = E.length
    · subst h
      rw [updV_same] at hk
      have hv := vown k hk
      have := nb k hv
      refine ⟨by omega, fun h => ?_⟩
      have h2 := ob.mod M2 (fun k hk h => ob.apart R0 (by decide) hk h)
      exact h2.apart ol (by decide) hv h
    · have hi' : i < E.length := by omega
      rw [updV_lt hi'] at hk
      refine ⟨(hin.far i k hi' hk).1, fun h => ?_⟩
      have := Sl.lt (hin.bs i hi') (by decide) hk
      rcases fr k h with h | h
      · exact (hin.far i k hi' hk).2 h
      · have := x.size; omega
  · intro i hi
    rw [hlen] at hi
    by_cases h : i = E.length
    · subst h; rw [ent_snoc]; exact hok
    · have hi' : i < E.length := by omega
      rw [ent_snoc_lt hi']; exact hin.ok i hi'
  · intro k hk
    rcases hk with rfl | hk | ⟨i, hi, hk⟩
    · exact .inl (.inl rfl)
    · exact (fr k hk).imp (fun h => .inr (.inl h)) (fun h => Nat.le_trans x.size h)
    · rw [hlen] at hi
      by_cases h : i = E.length
      · subst h; rw [updV_same] at hk; exact .inr (nb k (vown k hk))
      · have hi' : i < E.length := by omega
        rw [updV_lt hi'] at hk; exact .inl (.inr (.inr ⟨i, hi', hk⟩))

set_option maxRecDepth 100000 in
set_option maxHeartbeats 1600000 in
theorem qput_any (w : World) (p : Value) (room : Nat) (E : List Ent) (S : Nat → Prop) (h : QueueAt w p room E S) (e : Ent) (vb : Value) (hb : BytesAt w vb e.b) (hI : I64 e.blk ∧ I64 e.by_) :
    Calls Try.prog 36 #[p, .agg #[.int .i64 e.blk, .int .i64 e.at_, vb, .int .i64 e.by_, .bool e.tears]] w fun r w' => r = .returned (.int .i64 (qputE room E e)) ∧
      ∃ S', QueueAt w' p room (qput room E e) S' ∧ Mod S w w' ∧ ∀ k, S' k → S k ∨ w.heap.size ≤ k := by
  have lb := Sl.run_len (P := Try.prog) hb IB.und 3
  have k1 := Sl.cells_eq hb
  have t1 := Sl.run_st (P := Try.prog) hb
  obtain ⟨bl, a, b, y, t⟩ := e
  simp only at hb lb k1 t1 hI ⊢
  have hA : ∀ (o : Obj), Mod S w (w.alloc o) := fun o => (Mod.refl _ _).alloc _
  have hq : qputE room E ⟨bl, a, b, y, t⟩ = 1 → qput room E ⟨bl, a, b, y, t⟩ = E := fun h => by unfold qput; rw [h]; rfl
  have hq2 : qputE room E ⟨bl, a, b, y, t⟩ = 11 → qput room E ⟨bl, a, b, y, t⟩ = E := fun h => by unfold qput; rw [h]; rfl
  have HQ := Lib.hid (And.intro hq hq2)
  clear hq hq2
  rcases (by omega : bl < 0 ∨ (0 ≤ bl ∧ a < 0) ∨ (0 ≤ bl ∧ 0 ≤ a ∧ y < 0) ∨ (0 ≤ bl ∧ 0 ≤ a ∧ 0 ≤ y ∧ 256 < a) ∨ (0 ≤ bl ∧ 0 ≤ a ∧ 0 ≤ y ∧ a ≤ 256 ∧ b.length < 1) ∨ (0 ≤ bl ∧ 0 ≤ a ∧ 0 ≤ y ∧ a ≤ 256 ∧ 1 ≤ b.length ∧ 8 < b.length) ∨ (0 ≤ bl ∧ 0 ≤ a ∧ 0 ≤ y ∧ a ≤ 256 ∧ 1 ≤ b.length ∧ b.length ≤ 8)) with
    z1 | ⟨z1, z2⟩ | ⟨z1, z2, z3⟩ | ⟨z1, z2, z3, z4⟩ | ⟨z1, z2, z3, z4, z5⟩ | ⟨z1, z2, z3, z4, z5, z6⟩ | ⟨z1, z2, z3, z4, z5, z6⟩
  case' inr.inr.inr.inr.inl => have z5' : (b.length : Int) < 1 := by omega
  case' inr.inr.inr.inr.inr.inl => have z5' : ¬ (b.length : Int) < 1 := by omega
  case' inr.inr.inr.inr.inr.inl => have z6' : (8 : Int) < (b.length : Int) := by omega
  case inr.inr.inr.inr.inr.inr =>
    have z5' : ¬ (b.length : Int) < 1 := by omega
    have z6' : ¬ (8 : Int) < (b.length : Int) := by omega
    obtain ⟨pq, lv, V, rfl, hin, hS⟩ := h.ex
    have HS := Lib.hid hS
    have HIN := Lib.hid hin
    have l0 := hin.row.sl.run_len (P := Try.prog) IE.und 3
    obtain ⟨w0, hw0⟩ : ∃ w0, w0 = w.alloc (.cells #[.int .i64 bl, .int .i64 a, vb, .int .i64 y, .bool t] 73) := ⟨_, rfl⟩
    have x0 : Ext w w0 := by rw [hw0]; exact (Mod.refl _ _).alloc _
    have h0 : w0.heap[w.heap.size]? = some (.cells #[.int .i64 bl, .int .i64 a, vb, .int .i64 y, .bool t] 73 (0, 0)) := by rw [hw0]; simp only [heap_alloc_if, if_true]
    obtain ⟨g, hg⟩ : ∃ g, g = w.heap.size := ⟨_, rfl⟩
    rw [← hg] at h0
    have key : ∀ w' : World, Ext w0 w' → (w'.cell? ⟨g, 0, none⟩ = some (.int .i64 bl) ∧ w'.cell? ⟨g, 1, none⟩ = some (.int .i64 a) ∧ w'.cell? ⟨g, 2, none⟩ = some vb ∧ w'.cell? ⟨g, 3, none⟩ = some (.int .i64 y) ∧ w'.cell? ⟨g, 4, none⟩ = some (.bool t)) := by
      intro w' x
      have := x.blk h0
      simp [World.cell?, this]
    have keq : ∀ w' : World, Ext w0 w' → (w'.cell? ⟨pq, 0, none⟩ = some (.int .i64 room) ∧ w'.cell? ⟨pq, 1, none⟩ = some lv) := fun w' x => ⟨Ext.cell (x0.trans x) hin.c0, Ext.cell (x0.trans x) hin.c1⟩
    obtain ⟨c0, c1, c2, c3, c4⟩ := key w0 (Mod.refl _ _)
    obtain ⟨q0, q1⟩ := keq w0 (Mod.refl _ _)
    have hbe : ∀ w' : World, Ext w0 w' → BytesAt w' vb b := fun w' x => BytesAt.ext hb (x0.trans x)
    have KEY := Lib.hid (And.intro key (And.intro keq (And.intro hbe x0)))
    have HG := Lib.hid hg
    have HW := Lib.hid hw0
    have hrm := hin.rng
    clear key keq hbe hb hin hS h0 hA x0 hg hw0 h
    by_cases hr : room ≤ E.length
    · have hE : qputE room E ⟨bl, a, b, y, t⟩ = 11 := by unfold qputE; rw [if_neg (by simp only; omega), if_pos hr]
      rw [hE, HQ.out.2 hE]
      have hr' : (room : Int) ≤ (E.length : Int) := by omega
      go_enter Try.func36, Try.ntmps36
      go_upto_region 1 with fail
      rw [← HW.out, ← HG.out]
      go_wp2_with fail
      go_quiet (fail)
      go_wp2_with fail
      go_ret
      exact ⟨rfl, S, ⟨pq, lv, V, rfl, HIN.out.mod (KEY.out.2.2.2.drewN nq) (fun k _ h => h), HS.out⟩, Ext.mod (KEY.out.2.2.2.drewN nq) S, fun k hk => .inl hk⟩
    · have hE : qputE room E ⟨bl, a, b, y, t⟩ = 0 := by unfold qputE; rw [if_neg (by simp only; omega), if_neg hr]
      have hP : qput room E ⟨bl, a, b, y, t⟩ = E ++ [⟨bl, a, b, y, t⟩] := by unfold qput; rw [if_pos hE]
      rw [hE, hP]
      have hr' : ¬ (room : Int) ≤ (E.length : Int) := by omega
      go_enter Try.func36, Try.ntmps36
      go_upto_region 1 with fail
      rw [← HW.out, ← HG.out]
      go_wp2_with fail
      go_quiet (fail)
      go_wp2_with fail
      obtain ⟨wa, hwa⟩ : ∃ wa, wa = w0.drewN nq := ⟨_, rfl⟩
      have xa : Ext w0 wa := by rw [hwa]; exact (Mod.refl _ _).drewN nq
      rw [← hwa]
      clear hwa c0 c1 c2 c3 c4 q0 q1
      obtain ⟨c0, c1, c2, c3, c4⟩ := KEY.out.1 wa xa
      obtain ⟨q0, q1⟩ := KEY.out.2.1 wa xa
      have XA := Lib.hid xa
      clear xa
      go_region_law (first | (refine step_app IE rfl (.tmp 51) (.tmp 54) rfl (HIN.out.row.ext ?_) (built_sl (n := 1) (g := w1.heap.size) (e := 73) (cs := #[.int .i64 bl, .int .i64 a, .slice la1 b.length lc1, .int .i64 y, .bool t]) ?_ rfl (by simp only [maxLen]; omega)) (one5 _ _ _ _ _ _ _) ?_ ?_ (by omega) (by simp only [maxLen]; omega) ?_; (repeat (first | exact (KEY.out.2.2.2.trans XA.out).trans E1 | apply Mod.drew | apply Mod.alloc)); (simp only [heap_alloc_if, if_true]); (simp [Act.eval]); (simp [Act.eval]); intro lv' w2 ol2 gr2 fr2 nn2; obtain ⟨la, lc, hlv, _⟩ := ol2.sl.shape; subst hlv; have M2 : Mod (fun q => lv.ownBlock = some q) w1 w2 := Mod.grown (by repeat (first | exact Mod.refl _ _ | apply Mod.drew | apply Mod.alloc)) gr2 (fun q h => .inl h); have B2 := M2.blk (Ext.blk ((KEY.out.2.2.2.trans XA.out).trans E1) HIN.out.box) (fun e => HIN.out.row.apart_obj HIN.out.box (by decide) e); have r2 : w2.cell? ⟨pq, 1, none⟩ = some lv := (by simp [World.cell?, B2]); have f2 : w2.frozen? ⟨pq, 1, none⟩ = false := (by simp [World.frozen?, B2])) | (go_simp; go_at_call 70; refine (qcopied_any _ bl a y t vb b (KEY.out.2.2.1 _ (Mod.trans XA.out (by repeat (first | exact Mod.refl _ _ | apply Mod.drew)))) (by omega)).mono ?_; rintro r w1 ⟨la1, lc1, rfl, o1, y1, f1⟩; have E1 : Ext wa w1 := Mod.trans (by repeat (first | exact Mod.refl _ _ | apply Mod.drew)) y1; have p1 : w1.cell? ⟨pq, 1, none⟩ = some lv := (KEY.out.2.1 w1 (XA.out.trans E1)).2; have p2 : (w1.alloc (.cells #[.int .i64 bl, .int .i64 a, .slice la1 b.length lc1, .int .i64 y, .bool t] 73)).cell? ⟨pq, 1, none⟩ = some lv := Ext.cell ((Mod.refl _ _).alloc _) p1))
      all_goals
        have F2 : ∀ q, (Value.slice la (E.length + 1) lc).ownBlock = some q → lv.ownBlock = some q ∨ w1.heap.size ≤ q := fun q hq => (fr2 q hq).imp id (fun h => by simp only [World.size_alloc] at h; omega)
        have XW : Ext w w1 := (KEY.out.2.2.2.trans XA.out).trans E1
        have P := queue_push (e := ⟨bl, a, b, y, t⟩) HIN.out XW M2 ol2 F2 o1 (fun q hq => Nat.le_trans (KEY.out.2.2.2.trans XA.out).size (f1 q hq)) ⟨by have := hI.1; simp [I64] at this; simp only; omega, by simp only; omega, by have := hI.2; simp [I64] at this; simp only; omega, by simp only; omega⟩ (by omega)
        have HP := Lib.hid P
        clear P F2 XW M2 ol2 gr2 fr2 B2 o1 y1 f1 E1
        go_wp2_with fail
        go_ret
        obtain ⟨P1, P2, P3⟩ := HP.out
        exact ⟨rfl, _, ⟨pq, _, _, rfl, P1, fun q => Iff.rfl⟩, P2.weak (fun q hq => .inl ((HS.out q).2 hq)), fun q hq => (P3 q hq).imp (HS.out q).2 id⟩
  all_goals
    have hE : qputE room E ⟨bl, a, b, y, t⟩ = 1 := by unfold qputE; rw [if_pos (by simp only; omega)]
    rw [hE, HQ.out.1 hE]
    go_enter Try.func36, Try.ntmps36
    go_wp2_with fail
    go_ret
    exact ⟨rfl, S, h.ext ((Mod.refl _ _).alloc _), hA _, fun k hk => .inl hk⟩
end Go.Proofs.Ytbhocahmhmafmaa
namespace Go.Proofs.Ytbhocahmhmafmaa
open Go.Ren Go.RowKit
set_option linter.unusedVariables false

structure ListIn (w : World) (lv : Value) (V : Nat → Value) (n : Nat) (E : Nat → Ent) : Prop where
  row : Own w 73 5 lv n (flat 5 n (fun i j => ecell (E i) (V i) j))
  bs : ∀ i, i < n → Own w 5 1 (V i) (E i).b.length ((E i).b.map bv)
theorem ListIn.ext {w w' : World} {lv : Value} {V : Nat → Value} {n : Nat} {E : Nat → Ent} (h : ListIn w lv V n E) (x : Ext w w') : ListIn w' lv V n E := ⟨h.row.ext x, fun i hi => (h.bs i hi).ext x⟩
theorem ListIn.push {w w2 : World} {v v' u : Value} {V : Nat → Value} {n : Nat} {E : Nat → Ent} (h : ListIn w v V n E) (M : Mod (fun q => v.ownBlock = some q) w w2)
    (o : Own w2 73 5 v' (n + 1) (flat 5 n (fun i j => ecell (E i) (V i) j) ++ [.int .i64 (E n).blk, .int .i64 (E n).at_, u, .int .i64 (E n).by_, .bool (E n).tears]))
    (ob : Own w 5 1 u (E n).b.length ((E n).b.map bv)) : ListIn w2 v' (updV V n u) (n + 1) E := by
  refine ⟨?_, fun i hi => ?_⟩
  · have e : flat 5 (n + 1) (fun i j => ecell (E i) (updV V n u i) j) = flat 5 n (fun i j => ecell (E i) (V i) j) ++ [.int .i64 (E n).blk, .int .i64 (E n).at_, u, .int .i64 (E n).by_, .bool (E n).tears] := by
      rw [flat_succ _ _ _ (by decide)]
      congr 1
      · exact flat_congr fun i j hi _ => by rw [updV_lt hi]
      · simp [List.range, List.range.loop, ecell, updV_same]
    rw [e]; exact o
  · by_cases e : i = n
    · subst e; rw [updV_same]; exact ob.mod M (fun k hk hl => ob.apart h.row (by decide) hk hl)
    · have hi' : i < n := by omega
      rw [updV_lt hi']; exact (h.bs i hi').mod M (fun k hk hl => (h.bs i hi').apart h.row (by decide) hk hl)

/-- What a list of entries is, behind the call. -/
def ListPost (E : List Ent) (w : World) (e : Ending) (w' : World) : Prop :=
  ∃ v V, e = .returned v ∧ ListIn w' v V E.length (fun i => ent E i) ∧ Ext w w' ∧ (∀ q, v.ownBlock = some q → w.heap.size ≤ q) ∧ ∀ i q, i < E.length → (V i).ownBlock = some q → w.heap.size ≤ q

set_option maxRecDepth 100000 in
set_option maxHeartbeats 800000 in
theorem qlist_any (w : World) (p : Value) (room : Nat) (E : List Ent) (S : Nat → Prop) (h : QueueAt w p room E S) :
    Calls Try.prog 86 #[p] w (ListPost E w) := by
  obtain ⟨pq, lv, V, rfl, hin, _⟩ := h.ex
  clear h
  have c0 := hin.c1
  have l0 := hin.row.sl.run_len (P := Try.prog) IE.und 3
  have hcnt := hin.cnt
  have hrng := hin.rng
  go_enter Try.func86, Try.ntmps86
  go_wp2
  go_loopw [3, 11] (fun s3 s11 wr => ∃ k V', k ≤ E.length ∧ s11 = .int .i64 (k : Int) ∧ ListIn wr s3 V' k (fun i => ent E i) ∧ Ext w wr ∧ (∀ q, s3.ownBlock = some q → w.heap.size ≤ q) ∧ ∀ i q, i < k → (V' i).ownBlock = some q → w.heap.size ≤ q) (fun _ i _ => E.length - (intOf i).toNat)
  case atStart => exact ⟨0, V, Nat.zero_le _, rfl, ⟨Own.nil _ _ _, fun i hi => by omega⟩, Mod.refl _ _, (fun q hq => by cases hq), fun i q hi => by omega⟩
  case round =>
    obtain ⟨k, V', hk, rfl, hr, x, hf, hf2⟩ := hrel
    by_cases hlt : k < E.length
    · have hlt' : (k : Int) < (E.length : Int) := by omega
      have i0 := hin.row.sl.run_idx (P := Try.prog) IE.und IE.size .i64 k hlt
      have hinr := hin.mod x (fun _ _ h => h)
      obtain ⟨c1, c2, c3, c4, c5⟩ := hinr.cells hlt
      have hb := hinr.bs k hlt
      have hok := (hinr.ok k hlt).len
      have k1 := Sl.cells_eq hb
      have t1 := Sl.run_st (P := Try.prog) hb
      obtain ⟨e, he⟩ : ∃ e, e = ent E k := ⟨_, rfl⟩
      rw [← he] at c1 c2 c4 c5 hb hok
      obtain ⟨bl, hbl⟩ : ∃ b, b = e.blk := ⟨_, rfl⟩
      obtain ⟨ea, hea⟩ : ∃ b, b = e.at_ := ⟨_, rfl⟩
      obtain ⟨y, hy⟩ : ∃ b, b = e.by_ := ⟨_, rfl⟩
      obtain ⟨te, hte⟩ : ∃ b, b = e.tears := ⟨_, rfl⟩
      obtain ⟨eb, heb⟩ : ∃ b, b = e.b := ⟨_, rfl⟩
      rw [← hbl] at c1; rw [← hea] at c2; rw [← hy] at c4; rw [← hte] at c5; rw [← heb] at hb hok
      have HE := Lib.hid (And.intro he (And.intro hbl (And.intro hea (And.intro hy (And.intro hte heb)))))
      have H := Lib.hid (And.intro hin (And.intro hr (And.intro x (And.intro hb (And.intro hf hf2)))))
      clear hin hr x hb hf hf2 hinr he hbl hea hy hte heb c0
      go_wp2_with fail
      refine (qcopied_any _ bl ea y te (V k) eb (BytesAt.ext H.out.2.2.2.1 (Mod.alloc (Mod.refl _ _) _)) (by omega)).mono ?_
      rintro r w1 ⟨la, lc, rfl, o1, x1, f1⟩
      have XW : Ext wr w1 := (Mod.alloc (Mod.refl _ _) _).trans x1
      have hr1 := H.out.2.1.ext XW
      have O := Lib.hid (And.intro o1 (And.intro XW f1))
      clear o1 x1 f1 XW
      go_wp2_with (at_builtin; go_loud (refine wpList_app IE rfl (.tmp 15) (.tmp 18) rfl (hr1.row.ext (Mod.alloc (Mod.refl _ _) _)) (built_sl (n := 1) (g := w1.heap.size) (e := 73) (cs := #[.int .i64 bl, .int .i64 ea, .slice la eb.length lc, .int .i64 y, .bool te]) (by simp only [heap_alloc_if, if_true]) rfl (by simp only [maxLen]; omega)) (one5 _ _ _ _ _ _ _) (by simp [Act.eval]) (by simp [Act.eval]) (by omega) (by simp only [maxLen]; omega) ?_); intro lv' w2 ol2 gr2 fr2 nn2; have HH := Lib.hid (And.intro ol2 (And.intro gr2 fr2)); clear ol2 gr2 fr2 nn2)
      go_roundw
      case rel =>
        obtain ⟨ol2, gr2, fr2⟩ := HH.out
        obtain ⟨he, hbl, hea, hy, hte, heb⟩ := HE.out
        have M2 : Mod (fun q => u3.ownBlock = some q) w1 w2 := Mod.grown (Mod.alloc (Mod.refl _ _) _) gr2 (fun q h => .inl h)
        have P := hr1.push (u := .slice la eb.length lc) M2 (by rw [← he, ← hbl, ← hea, ← hy, ← hte]; exact ol2) (by rw [← he, ← heb]; exact O.out.1)
        refine ⟨k + 1, _, by omega, by go_num, P, (H.out.2.2.1.trans O.out.2.1).trans' M2 (fun q hq => .inr (H.out.2.2.2.2.1 q hq)), fun q hq => ?_, fun i q hi hq => ?_⟩
        · rcases fr2 q hq with h | h
          · exact H.out.2.2.2.2.1 q h
          · simp only [World.size_alloc] at h
            have := O.out.2.1.size
            have := H.out.2.2.1.size
            omega
        · by_cases e : i = k
          · subst e; rw [updV_same] at hq
            have := O.out.2.2 q hq
            simp only [World.size_alloc] at this
            have := H.out.2.2.1.size
            omega
          · have hi' : i < k := by omega
            rw [updV_lt hi'] at hq; exact H.out.2.2.2.2.2 i q hi' hq
      case measure => simp [intOf]; omega
    · have hlt' : ¬ (k : Int) < (E.length : Int) := by omega
      obtain rfl : k = E.length := by omega
      have HF := Lib.hid (And.intro hr (And.intro x (And.intro hf hf2)))
      clear hr x hf hf2 hin
      go_wp2
      go_ret
      exact ⟨_, V', rfl, HF.out.1, HF.out.2.1, HF.out.2.2.1, HF.out.2.2.2⟩
end Go.Proofs.Ytbhocahmhmafmaa
