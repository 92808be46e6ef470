/-
  The store buffers in memory; the contracts of fifo.New, fifo.copied. No condition. The contract of (*fifo.Queue).Put. No condition. The contract of (*fifo.Queue).List: the entries, in memory of their own. No condition. The contract of (*fifo.Queue).Over. No condition.
-/
import Derived.Test.YtbhocahmhmafmaaGreatPBaseA
import Derived.Test.YtbhocahmhmafmaaGreatPBlkLaw
import Derived.Deep.RegionHeld3
import Derived.Laws.Rows
import Derived.Deep.RegionLaw
import Derived.BigQuiet
import Derived.Deep.DeepCutAuto
import Derived.RegionTactic
import Derived.BigRegion
import Derived.Laws.Bits64
import Derived.WalkMore
namespace Go.Proofs.YtbhocahmhmafmaaGreat
open Go.Ren Go.RowKit
set_option linter.unusedVariables false
theorem IE : EInfo Tryz.prog 134 100 5 56 (.agg #[.int .i64 0, .int .i64 0, .slice none 0 0, .int .i64 0, .bool false]) := ⟨Tryz.underlying134, by kernel_rfl, rfl, by decide⟩
def ecell (e : Ent) (v : Value) (j : Nat) : Value := if j = 0 then .int .i64 e.blk else if j = 1 then .int .i64 e.at_ else if j = 2 then v else if j = 3 then .int .i64 e.by_ else .bool e.tears
structure QueueIn (w : World) (pq : Nat) (lv : Value) (V : Nat → Value) (room : Nat) (E : List Ent) : Prop where
 box : w.heap[pq]? = some (.cells #[.int .i64 room, lv] 136 (0, 0))
 row : Own w 100 5 lv E.length (flat 5 E.length (fun i j => ecell (ent E i) (V i) j))
 bs : ∀ i, i < E.length → BytesAt w (V i) (ent E i).b
 far : ∀ i k, i < E.length → fp (V i) k → k ≠ pq ∧ lv.ownBlock ≠ some k
 ok : ∀ i, i < E.length → EOk (ent E i)
 rng : 1 ≤ room ∧ room ≤ 64
 cnt : E.length ≤ room
def QueueFp (pq : Nat) (lv : Value) (V : Nat → Value) (n : Nat) (k : Nat) : Prop := k = pq ∨ lv.ownBlock = some k ∨ ∃ i, i < n ∧ fp (V i) k
structure QueueAt (w : World) (p : Value) (room : Nat) (E : List Ent) (S : Nat → Prop) : Prop where
 ex : ∃ pq lv V, p = .pointer (some ⟨pq, 0, none⟩) ∧ QueueIn w pq lv V room E ∧ ∀ k, S k ↔ QueueFp pq lv V E.length k
theorem QueueIn.lt {w : World} {pq : Nat} {lv : Value} {V : Nat → Value} {room : Nat} {E : List Ent} (h : QueueIn w pq lv V room E) {k : Nat} (hk : QueueFp pq lv V E.length k) : k < w.heap.size := by
 rcases hk with rfl | hk | ⟨i, hi, hk⟩
 · exact lt_of_block h.box
 · exact h.row.lt hk
 · exact Sl.lt (h.bs i hi) (by decide) hk
theorem QueueIn.mod {w w' : World} {pq : Nat} {lv : Value} {V : Nat → Value} {room : Nat} {E : List Ent} {F : Nat → Prop} (h : QueueIn w pq lv V room E) (md : Mod F w w') (hF : ∀ k, QueueFp pq lv V E.length k → ¬ F k) : QueueIn w' pq lv V room E :=
 ⟨md.blk h.box (hF pq (.inl rfl)), h.row.mod md fun k hk => hF k (.inr (.inl hk)), fun i hi => BytesAt.mod (h.bs i hi) md fun k hk => hF k (.inr (.inr ⟨i, hi, hk⟩)), h.far, h.ok, h.rng, h.cnt⟩
theorem QueueAt.lt {w : World} {p : Value} {room : Nat} {E : List Ent} {S : Nat → Prop} (h : QueueAt w p room E S) {k : Nat} (hk : S k) : k < w.heap.size := by
 obtain ⟨pq, lv, V, _, hin, hS⟩ := h.ex
 exact hin.lt ((hS k).1 hk)
theorem QueueAt.mod {w w' : World} {p : Value} {room : Nat} {E : List Ent} {S F : Nat → Prop} (h : QueueAt w p room E S) (md : Mod F w w') (hF : ∀ k, S k → ¬ F k) : QueueAt w' p room E S := by
 obtain ⟨pq, lv, V, hp, hin, hS⟩ := h.ex
 exact ⟨pq, lv, V, hp, hin.mod md fun k hk => hF k ((hS k).2 hk), hS⟩
theorem QueueAt.ext {w w' : World} {p : Value} {room : Nat} {E : List Ent} {S : Nat → Prop} (h : QueueAt w p room E S) (md : Ext w w') : QueueAt w' p room E S := h.mod md fun _ _ h => h
theorem QueueIn.c0 {w : World} {pq : Nat} {lv : Value} {V : Nat → Value} {room : Nat} {E : List Ent} (h : QueueIn w pq lv V room E) : w.cell? ⟨pq, 0, none⟩ = some (.int .i64 room) := by simp [World.cell?, h.box]
theorem QueueIn.c1 {w : World} {pq : Nat} {lv : Value} {V : Nat → Value} {room : Nat} {E : List Ent} (h : QueueIn w pq lv V room E) : w.cell? ⟨pq, 1, none⟩ = some lv := by simp [World.cell?, h.box]
theorem QueueIn.cells {w : World} {pq : Nat} {lv : Value} {V : Nat → Value} {room : Nat} {E : List Ent} (h : QueueIn w pq lv V room E) {i : Nat} (hi : i < E.length) :
 w.cell? (at_ lv (i * 5)) = some (.int .i64 (ent E i).blk) ∧ w.cell? ⟨(at_ lv (i * 5)).block, (at_ lv (i * 5)).off + 1, none⟩ = some (.int .i64 (ent E i).at_) ∧ w.cell? ⟨(at_ lv (i * 5)).block, (at_ lv (i * 5)).off + 2, none⟩ = some (V i) ∧
 w.cell? ⟨(at_ lv (i * 5)).block, (at_ lv (i * 5)).off + 3, none⟩ = some (.int .i64 (ent E i).by_) ∧ w.cell? ⟨(at_ lv (i * 5)).block, (at_ lv (i * 5)).off + 4, none⟩ = some (.bool (ent E i).tears) := by
 have g : ∀ j, j < 5 → (flat 5 E.length (fun i j => ecell (ent E i) (V i) j))[i * 5 + j]? = some (ecell (ent E i) (V i) j) := fun j hj => flat_get (sz := 5) _ hi hj
 exact ⟨h.row.sl.cell _ _ (g 0 (by decide)), h.row.sl.cell_off (by decide) (g 1 (by decide)), h.row.sl.cell_off (by decide) (g 2 (by decide)), h.row.sl.cell_off (by decide) (g 3 (by decide)), h.row.sl.cell_off (by decide) (g 4 (by decide))⟩
theorem qnew_any (w : World) (r : Int) : Calls Tryz.prog 33 #[.int .i64 r] w fun e w' =>
 (1 ≤ r ∧ r ≤ 64 → ∃ pq S, e = .returned (.tuple #[.pointer (some ⟨pq, 0, none⟩), .int .i64 0]) ∧ QueueAt w' (.pointer (some ⟨pq, 0, none⟩)) r.toNat [] S ∧ Ext w w' ∧ ∀ k, S k → w.heap.size ≤ k) ∧
 (¬ (1 ≤ r ∧ r ≤ 64) → e = .returned (.tuple #[.pointer none, .int .i64 1]) ∧ w' = w) := by
 by_cases h1 : r < 1
 · refine Calls.mono (R := fun e w' => e = .returned (.tuple #[.pointer none, .int .i64 1]) ∧ w' = w) ?_ (fun e w' h => ⟨fun h' => by omega, fun _ => h⟩)
   go_enter Tryz.func33, Tryz.ntmps33
   go_wp2
   go_ret2
   exact ⟨rfl, rfl⟩
 by_cases h2 : 64 < r
 · refine Calls.mono (R := fun e w' => e = .returned (.tuple #[.pointer none, .int .i64 1]) ∧ w' = w) ?_ (fun e w' h => ⟨fun h' => by omega, fun _ => h⟩)
   go_enter Tryz.func33, Tryz.ntmps33
   go_wp2
   go_ret2
   exact ⟨rfl, rfl⟩
 obtain ⟨n, rfl⟩ := Int.eq_ofNat_of_zero_le (show 0 ≤ r by omega)
 have H : Calls Tryz.prog 33 #[.int .i64 (n : Int)] w fun e w' => e = .returned (.tuple #[.pointer (some ⟨w.heap.size, 0, none⟩), .int .i64 0]) ∧ w' = w.alloc (.cells #[.int .i64 (n : Int), .slice none 0 0] 136) := by
  go_enter Tryz.func33, Tryz.ntmps33
  go_wp2
  go_ret2
  exact ⟨rfl, rfl⟩
 refine H.mono ?_
 rintro e w' ⟨rfl, rfl⟩
 refine ⟨fun h => ⟨_, QueueFp w.heap.size (.slice none 0 0) (fun _ => .slice none 0 0) 0, rfl, ⟨_, _, _, rfl, ⟨by rw [heap_alloc_if, if_pos rfl, Int.toNat_natCast], Own.nil _ _ _, fun i hi => by simp at hi, fun i k hi => by simp at hi, fun i hi => by simp at hi, by omega, by simp⟩, fun k => Iff.rfl⟩, (Mod.refl _ _).alloc _, fun k hk => ?_⟩, fun h => by omega⟩
 rcases hk with rfl | hk | ⟨i, hi, _⟩
 · exact Nat.le_refl _
 · cases hk
 · omega
set_option maxRecDepth 100000 in
theorem qcopied_any (w : World) (bl a y : Int) (t : Bool) (vb : Value) (b : List UInt8) (hb : BytesAt w vb b) (hl : b.length ≤ 1000000) :
 Calls Tryz.prog 97 #[.agg #[.int .i64 bl, .int .i64 a, vb, .int .i64 y, .bool t]] w fun e w' => ∃ la lc, e = .returned (.agg #[.int .i64 bl, .int .i64 a, .slice la b.length lc, .int .i64 y, .bool t]) ∧ Own w' 5 1 (.slice la b.length lc) b.length (b.map bv) ∧ Ext w w' ∧ (∀ k, (Value.slice la b.length lc).ownBlock = some k → w.heap.size ≤ k) := by
 have k1 := Sl.cells_eq hb
 have t1 := Sl.run_st (P := Tryz.prog) hb
 go_enter Tryz.func97, Tryz.ntmps97
 go_wp2_with fail
 obtain ⟨g, hg⟩ : ∃ g, g = w.heap.size := ⟨_, rfl⟩
 obtain ⟨w0, hw0⟩ : ∃ w0, w0 = (w.alloc (.cells #[.int .i64 bl, .int .i64 a, vb, .int .i64 y, .bool t] 100)).alloc (.cells #[.int .i64 0, .int .i64 0, .slice none 0 0, .int .i64 0, .bool false] 100) := ⟨_, rfl⟩
 have x0 : Ext w w0 := by rw [hw0]; exact ((Mod.refl _ _).alloc _).alloc _
 have h0 : w0.heap[g]? = some (.cells #[.int .i64 bl, .int .i64 a, vb, .int .i64 y, .bool t] 100 (0, 0)) := by rw [hw0, hg]; exact heap_alloc2_old _ _ _
 have h1 : w0.heap[g + 1]? = some (.cells #[.int .i64 0, .int .i64 0, .slice none 0 0, .int .i64 0, .bool false] 100 (0, 0)) := by rw [hw0, hg]; exact heap_alloc2_new _ _ _
 rw [← hw0, ← hg]
 refine (clone_bytes _ _ b (BytesAt.ext hb x0) hl).mono ?_
 rintro e w1 ⟨v1, rfl, o1, x1, f1⟩
 rw [List.length_map] at o1
 obtain ⟨la, lc, hv1, _⟩ := o1.sl.shape
 subst hv1
 have b0 := x1.blk h0
 have b1 := x1.blk h1
 have hgl := lt_of_block h1
 have HG := Lib.hid (And.intro hg (And.intro x0 (And.intro x1 (And.intro o1 (And.intro f1 hgl)))))
 clear hg hw0 x0 h0 h1 o1 x1 f1 k1 t1 hb hgl
 have c0 : w1.cell? ⟨g, 0, none⟩ = some (.int .i64 bl) := by simp [World.cell?, b0]
 have c1 : w1.cell? ⟨g, 1, none⟩ = some (.int .i64 a) := by simp [World.cell?, b0]
 have c2 : w1.cell? ⟨g, 2, none⟩ = some vb := by simp [World.cell?, b0]
 have c3 : w1.cell? ⟨g, 3, none⟩ = some (.int .i64 y) := by simp [World.cell?, b0]
 have c4 : w1.cell? ⟨g, 4, none⟩ = some (.bool t) := by simp [World.cell?, b0]
 have f0 : w1.frozen? ⟨g, 2, none⟩ = false := by simp [World.frozen?, b0]
 have d0 : w1.cell? ⟨g + 1, 0, none⟩ = some (.int .i64 0) := by simp [World.cell?, b1]
 have d1 : w1.cell? ⟨g + 1, 1, none⟩ = some (.int .i64 0) := by simp [World.cell?, b1]
 have d2 : w1.cell? ⟨g + 1, 2, none⟩ = some (.slice none 0 0) := by simp [World.cell?, b1]
 have d3 : w1.cell? ⟨g + 1, 3, none⟩ = some (.int .i64 0) := by simp [World.cell?, b1]
 have d4 : w1.cell? ⟨g + 1, 4, none⟩ = some (.bool false) := by simp [World.cell?, b1]
 have e0 : w1.frozen? ⟨g + 1, 0, none⟩ = false := by simp [World.frozen?, b1]
 have e1 : w1.frozen? ⟨g + 1, 1, none⟩ = false := by simp [World.frozen?, b1]
 have e2 : w1.frozen? ⟨g + 1, 2, none⟩ = false := by simp [World.frozen?, b1]
 have e3 : w1.frozen? ⟨g + 1, 3, none⟩ = false := by simp [World.frozen?, b1]
 have e4 : w1.frozen? ⟨g + 1, 4, none⟩ = false := by simp [World.frozen?, b1]
 go_wp2_with fail
 refine bodyPost_ret (results_cell_row rfl _ _ (g + 1) 100 #[.int .i64 bl, .int .i64 a, .slice la b.length lc, .int .i64 y, .bool t] (0, 0) _ rfl (by simp [World.setCell, Array.getElem?_modify, b1]) Tryz.underlying100 rfl (by kernel_rfl)) rfl ?_
 obtain ⟨hg, x0, x1, o1, f1, hgl⟩ := HG.out
 have M : Mod (fun q => q = g ∨ q = g + 1) w1 ((((((w1.setCell ⟨g, 2, none⟩ (.slice la b.length lc)).setCell ⟨g + 1, 0, none⟩ (.int .i64 bl)).setCell ⟨g + 1, 1, none⟩ (.int .i64 a)).setCell ⟨g + 1, 2, none⟩ (.slice la b.length lc)).setCell ⟨g + 1, 3, none⟩ (.int .i64 y)).setCell ⟨g + 1, 4, none⟩ (.bool t)) :=
  ((((((Mod.refl _ _).setCell (.inl (.inl rfl)) _).setCell (.inl (.inr rfl)) _).setCell (.inl (.inr rfl)) _).setCell (.inl (.inr rfl)) _).setCell (.inl (.inr rfl)) _).setCell (.inl (.inr rfl)) _
 exact ⟨la, lc, rfl, o1.mod M (fun k hk h => by have := f1 k hk; omega), (x0.trans x1).trans' M (fun k h => .inr (by omega)), fun k hk => Nat.le_trans x0.size (f1 k hk)⟩
end Go.Proofs.YtbhocahmhmafmaaGreat
namespace Go.Proofs.YtbhocahmhmafmaaGreat
open Go.Ren Go.RowKit
set_option linter.unusedVariables false
def updV (f : Nat → Value) (n : Nat) (v : Value) : Nat → Value := fun i => if i = n then v else f i
theorem updV_same (f : Nat → Value) (n : Nat) (v : Value) : updV f n v n = v := by simp [updV]
theorem updV_lt {f : Nat → Value} {n i : Nat} {v : Value} (h : i < n) : updV f n v i = f i := by simp [updV, show i ≠ n by omega]
theorem one5 (i1 i2 : Int) (a : Option Addr) (n c : Nat) (i3 : Int) (t : Bool) : ∀ x ∈ [Value.int .i64 i1, .int .i64 i2, .slice a n c, .int .i64 i3, .bool t], x.oneCell' = true := by
 intro x hx; simp at hx; rcases hx with rfl | rfl | rfl | rfl | rfl <;> rfl
theorem queue_push {w wr w2 : World} {pq room : Nat} {lv lv' vb : Value} {V : Nat → Value} {E : List Ent} {e : Ent} (hin : QueueIn w pq lv V room E) (x : Ext w wr) (M2 : Mod (fun q => lv.ownBlock = some q) wr w2)
 (ol : Own w2 100 5 lv' (E.length + 1) (flat 5 E.length (fun i j => ecell (ent E i) (V i) j) ++ [.int .i64 e.blk, .int .i64 e.at_, vb, .int .i64 e.by_, .bool e.tears]))
 (fr : ∀ k, lv'.ownBlock = some k → lv.ownBlock = some k ∨ wr.heap.size ≤ k) (ob : Own wr 5 1 vb e.b.length (e.b.map bv)) (nb : ∀ k, vb.ownBlock = some k → w.heap.size ≤ k) (hok : EOk e) (hc : E.length < room) :
 QueueIn (w2.setCell ⟨pq, 1, none⟩ lv') pq lv' (updV V E.length vb) room (E ++ [e]) ∧ Mod (QueueFp pq lv V E.length) w (w2.setCell ⟨pq, 1, none⟩ lv') ∧
  ∀ k, QueueFp pq lv' (updV V E.length vb) (E ++ [e]).length k → QueueFp pq lv V E.length k ∨ w.heap.size ≤ k := by
 have R0 := hin.row.ext x
 have B0 := x.blk hin.box
 have C0 := M2.blk B0 (fun h => R0.apart_obj B0 (by decide) h)
 have hlen : (E ++ [e]).length = E.length + 1 := by simp
 have Ms : Mod (fun q => q = pq) w2 (w2.setCell ⟨pq, 1, none⟩ lv') := Mod.setCell (F := fun q => q = pq) (Mod.refl _ _) (.inl rfl) _
 have hpq : pq < w.heap.size := lt_of_block hin.box
 have MT : Mod (QueueFp pq lv V E.length) w (w2.setCell ⟨pq, 1, none⟩ lv') := ((x.mod (QueueFp pq lv V E.length)).trans' M2 (fun i hi => .inl (.inr (.inl hi)))).trans' Ms (fun i hi => .inl (.inl hi))
 have vown : ∀ k, fp vb k → vb.ownBlock = some k := fun k hk => by
  obtain ⟨la, lc, rfl, _⟩ := ob.sl.shape
  rcases ob.2 with ⟨h, _⟩ | ⟨g, cap, cur, h, _⟩
  · rw [h] at hk; exact hk.elim
  · rw [h] at hk ⊢; simp [Value.ownBlock]; exact hk.2
 refine ⟨⟨?_, ?_, ?_, ?_, ?_, hin.rng, by rw [hlen]; omega⟩, MT, ?_⟩
 · simp [World.setCell, Array.getElem?_modify, C0]
 · rw [hlen]
   have e1 : flat 5 (E.length + 1) (fun i j => ecell (ent (E ++ [e]) i) (updV V E.length vb i) j) = flat 5 E.length (fun i j => ecell (ent E i) (V i) j) ++ [.int .i64 e.blk, .int .i64 e.at_, vb, .int .i64 e.by_, .bool e.tears] := by
    rw [flat_succ _ _ _ (by decide)]
    congr 1
    · exact flat_congr fun i j hi _ => by rw [ent_snoc_lt hi, updV_lt hi]
    · simp [List.range, List.range.loop, ecell, ent_snoc, updV_same]
   rw [e1]
   exact ol.mod Ms (fun k hk h => by subst h; exact ol.apart_obj C0 (by decide) hk)
 · intro i hi
   rw [hlen] at hi
   by_cases h : i = E.length
   · subst h
     rw [ent_snoc, updV_same]
     have h2 := ob.mod M2 (fun k hk h => ob.apart R0 (by decide) hk h)
     exact (h2.mod Ms (fun k hk h => by subst h; exact h2.apart_obj C0 (by decide) hk)).sl
   · have hi' : i < E.length := by omega
     rw [ent_snoc_lt hi', updV_lt hi']
     have hb := hin.bs i hi'
     have hf := hin.far i
     refine BytesAt.mod (BytesAt.mod (BytesAt.ext hb x) M2 (fun k hk => (hf k hi' hk).2)) Ms (fun k hk => (hf k hi' hk).1)
 · intro i k hi hk
   rw [hlen] at hi
   by_cases h : i = E.length
   · subst h
     rw [updV_same] at hk
     have hv := vown k hk
     have := nb k hv
     refine ⟨by omega, fun h => ?_⟩
     have h2 := ob.mod M2 (fun k hk h => ob.apart R0 (by decide) hk h)
     exact h2.apart ol (by decide) hv h
   · have hi' : i < E.length := by omega
     rw [updV_lt hi'] at hk
     refine ⟨(hin.far i k hi' hk).1, fun h => ?_⟩
     have := Sl.lt (hin.bs i hi') (by decide) hk
     rcases fr k h with h | h
     · exact (hin.far i k hi' hk).2 h
     · have := x.size; omega
 · intro i hi
   rw [hlen] at hi
   by_cases h : i = E.length
   · subst h; rw [ent_snoc]; exact hok
   · have hi' : i < E.length := by omega
     rw [ent_snoc_lt hi']; exact hin.ok i hi'
 · intro k hk
   rcases hk with rfl | hk | ⟨i, hi, hk⟩
   · exact .inl (.inl rfl)
   · exact (fr k hk).imp (fun h => .inr (.inl h)) (fun h => Nat.le_trans x.size h)
   · rw [hlen] at hi
     by_cases h : i = E.length
     · subst h; rw [updV_same] at hk; exact .inr (nb k (vown k hk))
     · have hi' : i < E.length := by omega
       rw [updV_lt hi'] at hk; exact .inl (.inr (.inr ⟨i, hi', hk⟩))
set_option maxRecDepth 100000 in
set_option maxHeartbeats 1600000 in
theorem qput_any (w : World) (p : Value) (room : Nat) (E : List Ent) (S : Nat → Prop) (h : QueueAt w p room E S) (e : Ent) (vb : Value) (hb : BytesAt w vb e.b) (hI : I64 e.blk ∧ I64 e.by_) :
 Calls Tryz.prog 46 #[p, .agg #[.int .i64 e.blk, .int .i64 e.at_, vb, .int .i64 e.by_, .bool e.tears]] w fun r w' => r = .returned (.int .i64 (qputE room E e)) ∧
  ∃ S', QueueAt w' p room (qput room E e) S' ∧ Mod S w w' ∧ ∀ k, S' k → S k ∨ w.heap.size ≤ k := by
 have lb := Sl.run_len (P := Tryz.prog) hb IB.und 3
 have k1 := Sl.cells_eq hb
 have t1 := Sl.run_st (P := Tryz.prog) hb
 obtain ⟨bl, a, b, y, t⟩ := e
 simp only at hb lb k1 t1 hI ⊢
 have hA : ∀ (o : Obj), Mod S w (w.alloc o) := fun o => (Mod.refl _ _).alloc _
 have hq : qputE room E ⟨bl, a, b, y, t⟩ = 1 → qput room E ⟨bl, a, b, y, t⟩ = E := fun h => by unfold qput; rw [h]; rfl
 have hq2 : qputE room E ⟨bl, a, b, y, t⟩ = 11 → qput room E ⟨bl, a, b, y, t⟩ = E := fun h => by unfold qput; rw [h]; rfl
 have HQ := Lib.hid (And.intro hq hq2)
 clear hq hq2
 rcases (by omega : bl < 0 ∨ (0 ≤ bl ∧ a < 0) ∨ (0 ≤ bl ∧ 0 ≤ a ∧ y < 0) ∨ (0 ≤ bl ∧ 0 ≤ a ∧ 0 ≤ y ∧ 256 < a) ∨ (0 ≤ bl ∧ 0 ≤ a ∧ 0 ≤ y ∧ a ≤ 256 ∧ b.length < 1) ∨ (0 ≤ bl ∧ 0 ≤ a ∧ 0 ≤ y ∧ a ≤ 256 ∧ 1 ≤ b.length ∧ 8 < b.length) ∨ (0 ≤ bl ∧ 0 ≤ a ∧ 0 ≤ y ∧ a ≤ 256 ∧ 1 ≤ b.length ∧ b.length ≤ 8)) with
  z1 | ⟨z1, z2⟩ | ⟨z1, z2, z3⟩ | ⟨z1, z2, z3, z4⟩ | ⟨z1, z2, z3, z4, z5⟩ | ⟨z1, z2, z3, z4, z5, z6⟩ | ⟨z1, z2, z3, z4, z5, z6⟩
 case' inr.inr.inr.inr.inl => have z5' : (b.length : Int) < 1 := by omega
 case' inr.inr.inr.inr.inr.inl => have z5' : ¬ (b.length : Int) < 1 := by omega
 case' inr.inr.inr.inr.inr.inl => have z6' : (8 : Int) < (b.length : Int) := by omega
 case inr.inr.inr.inr.inr.inr =>
  have z5' : ¬ (b.length : Int) < 1 := by omega
  have z6' : ¬ (8 : Int) < (b.length : Int) := by omega
  obtain ⟨pq, lv, V, rfl, hin, hS⟩ := h.ex
  have HS := Lib.hid hS
  have HIN := Lib.hid hin
  have l0 := hin.row.sl.run_len (P := Tryz.prog) IE.und 3
  obtain ⟨w0, hw0⟩ : ∃ w0, w0 = w.alloc (.cells #[.int .i64 bl, .int .i64 a, vb, .int .i64 y, .bool t] 100) := ⟨_, rfl⟩
  have x0 : Ext w w0 := by rw [hw0]; exact (Mod.refl _ _).alloc _
  have h0 : w0.heap[w.heap.size]? = some (.cells #[.int .i64 bl, .int .i64 a, vb, .int .i64 y, .bool t] 100 (0, 0)) := by rw [hw0]; simp only [heap_alloc_if, if_true]
  obtain ⟨g, hg⟩ : ∃ g, g = w.heap.size := ⟨_, rfl⟩
  rw [← hg] at h0
  have key : ∀ w' : World, Ext w0 w' → (w'.cell? ⟨g, 0, none⟩ = some (.int .i64 bl) ∧ w'.cell? ⟨g, 1, none⟩ = some (.int .i64 a) ∧ w'.cell? ⟨g, 2, none⟩ = some vb ∧ w'.cell? ⟨g, 3, none⟩ = some (.int .i64 y) ∧ w'.cell? ⟨g, 4, none⟩ = some (.bool t)) := by
   intro w' x
   have := x.blk h0
   simp [World.cell?, this]
  have keq : ∀ w' : World, Ext w0 w' → (w'.cell? ⟨pq, 0, none⟩ = some (.int .i64 room) ∧ w'.cell? ⟨pq, 1, none⟩ = some lv) := fun w' x => ⟨Ext.cell (x0.trans x) hin.c0, Ext.cell (x0.trans x) hin.c1⟩
  obtain ⟨c0, c1, c2, c3, c4⟩ := key w0 (Mod.refl _ _)
  obtain ⟨q0, q1⟩ := keq w0 (Mod.refl _ _)
  have hbe : ∀ w' : World, Ext w0 w' → BytesAt w' vb b := fun w' x => BytesAt.ext hb (x0.trans x)
  have KEY := Lib.hid (And.intro key (And.intro keq (And.intro hbe x0)))
  have HG := Lib.hid hg
  have HW := Lib.hid hw0
  have hrm := hin.rng
  clear key keq hbe hb hin hS h0 hA x0 hg hw0 h
  by_cases hr : room ≤ E.length
  · have hE : qputE room E ⟨bl, a, b, y, t⟩ = 11 := by unfold qputE; rw [if_neg (by simp only; omega), if_pos hr]
    rw [hE, HQ.out.2 hE]
    have hr' : (room : Int) ≤ (E.length : Int) := by omega
    go_enter Tryz.func46, Tryz.ntmps46
    go_upto_region 1 with fail
    rw [← HW.out, ← HG.out]
    go_wp2_with fail
    go_quiet (fail)
    go_wp2_with fail
    go_ret
    exact ⟨rfl, S, ⟨pq, lv, V, rfl, HIN.out.mod (KEY.out.2.2.2.drewN nq) (fun k _ h => h), HS.out⟩, Ext.mod (KEY.out.2.2.2.drewN nq) S, fun k hk => .inl hk⟩
  · have hE : qputE room E ⟨bl, a, b, y, t⟩ = 0 := by unfold qputE; rw [if_neg (by simp only; omega), if_neg hr]
    have hP : qput room E ⟨bl, a, b, y, t⟩ = E ++ [⟨bl, a, b, y, t⟩] := by unfold qput; rw [if_pos hE]
    rw [hE, hP]
    have hr' : ¬ (room : Int) ≤ (E.length : Int) := by omega
    go_enter Tryz.func46, Tryz.ntmps46
    go_upto_region 1 with fail
    rw [← HW.out, ← HG.out]
    go_wp2_with fail
    go_quiet (fail)
    go_wp2_with fail
    obtain ⟨wa, hwa⟩ : ∃ wa, wa = w0.drewN nq := ⟨_, rfl⟩
    have xa : Ext w0 wa := by rw [hwa]; exact (Mod.refl _ _).drewN nq
    rw [← hwa]
    clear hwa c0 c1 c2 c3 c4 q0 q1
    obtain ⟨c0, c1, c2, c3, c4⟩ := KEY.out.1 wa xa
    obtain ⟨q0, q1⟩ := KEY.out.2.1 wa xa
    have XA := Lib.hid xa
    clear xa
    go_region_law (first | (refine step_app IE rfl (.tmp 51) (.tmp 54) rfl (HIN.out.row.ext ?_) (built_sl (n := 1) (g := w1.heap.size) (e := 100) (cs := #[.int .i64 bl, .int .i64 a, .slice la1 b.length lc1, .int .i64 y, .bool t]) ?_ rfl (by simp only [maxLen]; omega)) (one5 _ _ _ _ _ _ _) ?_ ?_ (by omega) (by simp only [maxLen]; omega) ?_; (repeat (first | exact (KEY.out.2.2.2.trans XA.out).trans E1 | apply Mod.drew | apply Mod.alloc)); (simp only [heap_alloc_if, if_true]); (simp [Act.eval]); (simp [Act.eval]); intro lv' w2 ol2 gr2 fr2 nn2; obtain ⟨la, lc, hlv, _⟩ := ol2.sl.shape; subst hlv; have M2 : Mod (fun q => lv.ownBlock = some q) w1 w2 := Mod.grown (by repeat (first | exact Mod.refl _ _ | apply Mod.drew | apply Mod.alloc)) gr2 (fun q h => .inl h); have B2 := M2.blk (Ext.blk ((KEY.out.2.2.2.trans XA.out).trans E1) HIN.out.box) (fun e => HIN.out.row.apart_obj HIN.out.box (by decide) e); have r2 : w2.cell? ⟨pq, 1, none⟩ = some lv := (by simp [World.cell?, B2]); have f2 : w2.frozen? ⟨pq, 1, none⟩ = false := (by simp [World.frozen?, B2])) | (go_simp; go_at_call 97; refine (qcopied_any _ bl a y t vb b (KEY.out.2.2.1 _ (Mod.trans XA.out (by repeat (first | exact Mod.refl _ _ | apply Mod.drew)))) (by omega)).mono ?_; rintro r w1 ⟨la1, lc1, rfl, o1, y1, f1⟩; have E1 : Ext wa w1 := Mod.trans (by repeat (first | exact Mod.refl _ _ | apply Mod.drew)) y1; have p1 : w1.cell? ⟨pq, 1, none⟩ = some lv := (KEY.out.2.1 w1 (XA.out.trans E1)).2; have p2 : (w1.alloc (.cells #[.int .i64 bl, .int .i64 a, .slice la1 b.length lc1, .int .i64 y, .bool t] 100)).cell? ⟨pq, 1, none⟩ = some lv := Ext.cell ((Mod.refl _ _).alloc _) p1))
    all_goals
     have F2 : ∀ q, (Value.slice la (E.length + 1) lc).ownBlock = some q → lv.ownBlock = some q ∨ w1.heap.size ≤ q := fun q hq => (fr2 q hq).imp id (fun h => by simp only [World.size_alloc] at h; omega)
     have XW : Ext w w1 := (KEY.out.2.2.2.trans XA.out).trans E1
     have P := queue_push (e := ⟨bl, a, b, y, t⟩) HIN.out XW M2 ol2 F2 o1 (fun q hq => Nat.le_trans (KEY.out.2.2.2.trans XA.out).size (f1 q hq)) ⟨by have := hI.1; simp [I64] at this; simp only; omega, by simp only; omega, by have := hI.2; simp [I64] at this; simp only; omega, by simp only; omega⟩ (by omega)
     have HP := Lib.hid P
     clear P F2 XW M2 ol2 gr2 fr2 B2 o1 y1 f1 E1
     go_wp2_with fail
     go_ret
     obtain ⟨P1, P2, P3⟩ := HP.out
     exact ⟨rfl, _, ⟨pq, _, _, rfl, P1, fun q => Iff.rfl⟩, P2.weak (fun q hq => .inl ((HS.out q).2 hq)), fun q hq => (P3 q hq).imp (HS.out q).2 id⟩
 all_goals
  have hE : qputE room E ⟨bl, a, b, y, t⟩ = 1 := by unfold qputE; rw [if_pos (by simp only; omega)]
  rw [hE, HQ.out.1 hE]
  go_enter Tryz.func46, Tryz.ntmps46
  go_wp2_with fail
  go_ret
  exact ⟨rfl, S, h.ext ((Mod.refl _ _).alloc _), hA _, fun k hk => .inl hk⟩
end Go.Proofs.YtbhocahmhmafmaaGreat
namespace Go.Proofs.YtbhocahmhmafmaaGreat
open Go.Ren Go.RowKit
set_option linter.unusedVariables false
structure ListIn (w : World) (lv : Value) (V : Nat → Value) (n : Nat) (E : Nat → Ent) : Prop where
 row : Own w 100 5 lv n (flat 5 n (fun i j => ecell (E i) (V i) j))
 bs : ∀ i, i < n → Own w 5 1 (V i) (E i).b.length ((E i).b.map bv)
theorem ListIn.ext {w w' : World} {lv : Value} {V : Nat → Value} {n : Nat} {E : Nat → Ent} (h : ListIn w lv V n E) (x : Ext w w') : ListIn w' lv V n E := ⟨h.row.ext x, fun i hi => (h.bs i hi).ext x⟩
theorem ListIn.push {w w2 : World} {v v' u : Value} {V : Nat → Value} {n : Nat} {E : Nat → Ent} (h : ListIn w v V n E) (M : Mod (fun q => v.ownBlock = some q) w w2)
 (o : Own w2 100 5 v' (n + 1) (flat 5 n (fun i j => ecell (E i) (V i) j) ++ [.int .i64 (E n).blk, .int .i64 (E n).at_, u, .int .i64 (E n).by_, .bool (E n).tears]))
 (ob : Own w 5 1 u (E n).b.length ((E n).b.map bv)) : ListIn w2 v' (updV V n u) (n + 1) E := by
 refine ⟨?_, fun i hi => ?_⟩
 · have e : flat 5 (n + 1) (fun i j => ecell (E i) (updV V n u i) j) = flat 5 n (fun i j => ecell (E i) (V i) j) ++ [.int .i64 (E n).blk, .int .i64 (E n).at_, u, .int .i64 (E n).by_, .bool (E n).tears] := by
    rw [flat_succ _ _ _ (by decide)]
    congr 1
    · exact flat_congr fun i j hi _ => by rw [updV_lt hi]
    · simp [List.range, List.range.loop, ecell, updV_same]
   rw [e]; exact o
 · by_cases e : i = n
   · subst e; rw [updV_same]; exact ob.mod M (fun k hk hl => ob.apart h.row (by decide) hk hl)
   · have hi' : i < n := by omega
     rw [updV_lt hi']; exact (h.bs i hi').mod M (fun k hk hl => (h.bs i hi').apart h.row (by decide) hk hl)
def ListPost (E : List Ent) (w : World) (e : Ending) (w' : World) : Prop :=
 ∃ v V, e = .returned v ∧ ListIn w' v V E.length (fun i => ent E i) ∧ Ext w w' ∧ (∀ q, v.ownBlock = some q → w.heap.size ≤ q) ∧ ∀ i q, i < E.length → (V i).ownBlock = some q → w.heap.size ≤ q
set_option maxRecDepth 100000 in
set_option maxHeartbeats 800000 in
theorem qlist_any (w : World) (p : Value) (room : Nat) (E : List Ent) (S : Nat → Prop) (h : QueueAt w p room E S) :
 Calls Tryz.prog 91 #[p] w (ListPost E w) := by
 obtain ⟨pq, lv, V, rfl, hin, _⟩ := h.ex
 clear h
 have c0 := hin.c1
 have l0 := hin.row.sl.run_len (P := Tryz.prog) IE.und 3
 have hcnt := hin.cnt
 have hrng := hin.rng
 go_enter Tryz.func91, Tryz.ntmps91
 go_wp2
 go_loopw [3, 11] (fun s3 s11 wr => ∃ k V', k ≤ E.length ∧ s11 = .int .i64 (k : Int) ∧ ListIn wr s3 V' k (fun i => ent E i) ∧ Ext w wr ∧ (∀ q, s3.ownBlock = some q → w.heap.size ≤ q) ∧ ∀ i q, i < k → (V' i).ownBlock = some q → w.heap.size ≤ q) (fun _ i _ => E.length - (intOf i).toNat)
 case atStart => exact ⟨0, V, Nat.zero_le _, rfl, ⟨Own.nil _ _ _, fun i hi => by omega⟩, Mod.refl _ _, (fun q hq => by cases hq), fun i q hi => by omega⟩
 case round =>
  obtain ⟨k, V', hk, rfl, hr, x, hf, hf2⟩ := hrel
  by_cases hlt : k < E.length
  · have hlt' : (k : Int) < (E.length : Int) := by omega
    have i0 := hin.row.sl.run_idx (P := Tryz.prog) IE.und IE.size .i64 k hlt
    have hinr := hin.mod x (fun _ _ h => h)
    obtain ⟨c1, c2, c3, c4, c5⟩ := hinr.cells hlt
    have hb := hinr.bs k hlt
    have hok := (hinr.ok k hlt).len
    have k1 := Sl.cells_eq hb
    have t1 := Sl.run_st (P := Tryz.prog) hb
    obtain ⟨e, he⟩ : ∃ e, e = ent E k := ⟨_, rfl⟩
    rw [← he] at c1 c2 c4 c5 hb hok
    obtain ⟨bl, hbl⟩ : ∃ b, b = e.blk := ⟨_, rfl⟩
    obtain ⟨ea, hea⟩ : ∃ b, b = e.at_ := ⟨_, rfl⟩
    obtain ⟨y, hy⟩ : ∃ b, b = e.by_ := ⟨_, rfl⟩
    obtain ⟨te, hte⟩ : ∃ b, b = e.tears := ⟨_, rfl⟩
    obtain ⟨eb, heb⟩ : ∃ b, b = e.b := ⟨_, rfl⟩
    rw [← hbl] at c1; rw [← hea] at c2; rw [← hy] at c4; rw [← hte] at c5; rw [← heb] at hb hok
    have HE := Lib.hid (And.intro he (And.intro hbl (And.intro hea (And.intro hy (And.intro hte heb)))))
    have H := Lib.hid (And.intro hin (And.intro hr (And.intro x (And.intro hb (And.intro hf hf2)))))
    clear hin hr x hb hf hf2 hinr he hbl hea hy hte heb c0
    go_wp2_with fail
    refine (qcopied_any _ bl ea y te (V k) eb (BytesAt.ext H.out.2.2.2.1 (Mod.alloc (Mod.refl _ _) _)) (by omega)).mono ?_
    rintro r w1 ⟨la, lc, rfl, o1, x1, f1⟩
    have XW : Ext wr w1 := (Mod.alloc (Mod.refl _ _) _).trans x1
    have hr1 := H.out.2.1.ext XW
    have O := Lib.hid (And.intro o1 (And.intro XW f1))
    clear o1 x1 f1 XW
    go_wp2_with (at_builtin; go_loud (refine wpList_app IE rfl (.tmp 15) (.tmp 18) rfl (hr1.row.ext (Mod.alloc (Mod.refl _ _) _)) (built_sl (n := 1) (g := w1.heap.size) (e := 100) (cs := #[.int .i64 bl, .int .i64 ea, .slice la eb.length lc, .int .i64 y, .bool te]) (by simp only [heap_alloc_if, if_true]) rfl (by simp only [maxLen]; omega)) (one5 _ _ _ _ _ _ _) (by simp [Act.eval]) (by simp [Act.eval]) (by omega) (by simp only [maxLen]; omega) ?_); intro lv' w2 ol2 gr2 fr2 nn2; have HH := Lib.hid (And.intro ol2 (And.intro gr2 fr2)); clear ol2 gr2 fr2 nn2)
    go_roundw
    case rel =>
     obtain ⟨ol2, gr2, fr2⟩ := HH.out
     obtain ⟨he, hbl, hea, hy, hte, heb⟩ := HE.out
     have M2 : Mod (fun q => u3.ownBlock = some q) w1 w2 := Mod.grown (Mod.alloc (Mod.refl _ _) _) gr2 (fun q h => .inl h)
     have P := hr1.push (u := .slice la eb.length lc) M2 (by rw [← he, ← hbl, ← hea, ← hy, ← hte]; exact ol2) (by rw [← he, ← heb]; exact O.out.1)
     refine ⟨k + 1, _, by omega, by go_num, P, (H.out.2.2.1.trans O.out.2.1).trans' M2 (fun q hq => .inr (H.out.2.2.2.2.1 q hq)), fun q hq => ?_, fun i q hi hq => ?_⟩
     · rcases fr2 q hq with h | h
       · exact H.out.2.2.2.2.1 q h
       · simp only [World.size_alloc] at h
         have := O.out.2.1.size
         have := H.out.2.2.1.size
         omega
     · by_cases e : i = k
       · subst e; rw [updV_same] at hq
         have := O.out.2.2 q hq
         simp only [World.size_alloc] at this
         have := H.out.2.2.1.size
         omega
       · have hi' : i < k := by omega
         rw [updV_lt hi'] at hq; exact H.out.2.2.2.2.2 i q hi' hq
    case measure => simp [intOf]; omega
  · have hlt' : ¬ (k : Int) < (E.length : Int) := by omega
    obtain rfl : k = E.length := by omega
    have HF := Lib.hid (And.intro hr (And.intro x (And.intro hf hf2)))
    clear hr x hf hf2 hin
    go_wp2
    go_ret
    exact ⟨_, V', rfl, HF.out.1, HF.out.2.1, HF.out.2.2.1, HF.out.2.2.2⟩
end Go.Proofs.YtbhocahmhmafmaaGreat
namespace Go.Proofs.YtbhocahmhmafmaaGreat
open Go.Ren Go.RowKit
set_option linter.unusedVariables false
def OverPost (E : List Ent) (k a : Int) (b : List UInt8) (y : List Int) (w : World) (e : Ending) (w' : World) : Prop :=
 ∃ v u, e = .returned (.tuple #[v, u]) ∧ Own w' 5 1 v (qoverB E k a b y).length ((qoverB E k a b y).map bv) ∧ Own w' 3 1 u (qoverY E k a b y).length ((qoverY E k a b y).map iv) ∧ Ext w w' ∧
  (∀ k, v.ownBlock = some k → w.heap.size ≤ k) ∧ (∀ k, u.ownBlock = some k → w.heap.size ≤ k)
theorem u64_sub_in {p a : Int} (h1 : 0 ≤ p ∧ p ≤ 1000) (h2 : I64 a) (h : a ≤ p) : IntKind.u64.wrap (p - IntKind.u64.wrap a) = p - a := by
 rw [IntKind.wrap_u64, IntKind.wrap_u64]
 unfold I64 at h2
 omega
set_option maxRecDepth 100000 in
set_option maxHeartbeats 1600000 in
theorem qover_any (w : World) (p : Value) (room : Nat) (E : List Ent) (S : Nat → Prop) (h : QueueAt w p room E S) (k a : Int) (ha : I64 a) (vb vy : Value) (b : List UInt8) (y : List Int) (hb : BytesAt w vb b) (hy : IntsAt w vy y) (hlb : b.length ≤ 1000000) (hly : y.length ≤ 1000000) :
 Calls Tryz.prog 87 #[p, .int .i64 k, .int .i64 a, vb, vy] w (OverPost E k a b y w) := by
 obtain ⟨pq, lv, V, rfl, hin, hS⟩ := h.ex
 clear hS h
 have l0 := hin.row.sl.run_len (P := Tryz.prog) IE.und 3
 have hcnt := hin.cnt
 have hrng := hin.rng
 go_enter Tryz.func87, Tryz.ntmps87
 go_wp2_with fail
 go_step3
 go_wp2_with fail
 refine (clone_bytes _ _ b hb hlb).mono ?_
 rintro e w1 ⟨v1, rfl, o1, x1, f1⟩
 go_wp2_with fail
 refine (clone_ints _ _ y (hy.ext x1) hly).mono ?_
 rintro e w2 ⟨y2, rfl, o2, x2, f2⟩
 rw [List.length_map] at o1 o2
 have ov := o1.ext x2
 have X2 := x1.trans x2
 have f2' : ∀ q, y2.ownBlock = some q → w.heap.size ≤ q := fun q hq => Nat.le_trans x1.size (f2 q hq)
 have lv1 := ov.sl.run_len (P := Tryz.prog) IB.und 3
 have ly2 := o2.sl.run_len (P := Tryz.prog) II.und 3
 have HO := Lib.hid (And.intro ov (And.intro o2 (And.intro X2 (And.intro f1 f2'))))
 have HIN := Lib.hid hin
 have HY := Lib.hid hy.ok
 have q1 := Ext.cell X2 hin.c1
 clear o1 o2 x1 x2 ov X2 f1 f2 f2' hin hb hy
 by_cases hl : b.length = y.length
 case neg =>
  have hl' : ((b.length : Int) != (y.length : Int)) = true := by rw [bne_iff_ne]; omega
  have e1 : qoverB E k a b y = b := by unfold qoverB; rw [if_neg hl]
  have e2 : qoverY E k a b y = y := by unfold qoverY; rw [if_neg hl]
  have HE := Lib.hid (And.intro e1 e2)
  clear e1 e2 hl
  go_wp2_with fail
  try rw [Exit.noGoto_ret]
  go_ret2
  exact ⟨_, _, rfl, by rw [HE.out.1]; exact HO.out.1, by rw [HE.out.2]; exact HO.out.2.1, HO.out.2.2.1, HO.out.2.2.2.1, HO.out.2.2.2.2⟩
 case pos =>
  have hl' : ((b.length : Int) != (y.length : Int)) = false := by rw [bne_eq_false_iff_eq]; omega
  have e1 : qoverB E k a b y = overB E k a b := by unfold qoverB; rw [if_pos hl]
  have e2 : qoverY E k a b y = overY E k a y := by unfold qoverY; rw [if_pos hl]
  have HE := Lib.hid (And.intro e1 e2)
  have HL := Lib.hid hl
  clear e1 e2 hl
  go_wp2_with fail
  go_step3
  go_wp2_with fail
  go_loopw [34] (fun s34 wr => ∃ i : Nat, i ≤ E.length ∧ s34 = .int .i64 (i : Int) ∧ Mod (fun q => v1.ownBlock = some q ∨ y2.ownBlock = some q) w2 wr ∧
   Own wr 5 1 v1 b.length ((overB (E.take i) k a b).map bv) ∧ Own wr 3 1 y2 y.length ((overY (E.take i) k a y).map iv)) (fun i _ => E.length - (intOf i).toNat)
  case atStart => exact ⟨0, Nat.zero_le _, rfl, Mod.refl _ _, by rw [List.take_zero]; exact HO.out.1, by rw [List.take_zero]; exact HO.out.2.1⟩
  case round =>
   obtain ⟨i, hi, rfl, xr, ob, oy⟩ := hrel
   by_cases hlt : i < E.length
   · have hlt' : (i : Int) < (E.length : Int) := by omega
     have i0 := HIN.out.row.sl.run_idx (P := Tryz.prog) IE.und IE.size .i64 i hlt
     have hF : ∀ q, (v1.ownBlock = some q ∨ y2.ownBlock = some q) → w.heap.size ≤ q := fun q h => h.elim (HO.out.2.2.2.1 q) (HO.out.2.2.2.2 q)
     have XR : Ext w wr := HO.out.2.2.1.trans' xr (fun q h => .inr (hF q h))
     have hinr := HIN.out.mod XR (fun _ _ h => h)
     obtain ⟨c0, c1, c2, c3, c4⟩ := hinr.cells hlt
     have hb := hinr.bs i hlt
     have hok := hinr.ok i hlt
     obtain ⟨⟨bl, ea, eb, by_, te⟩, he⟩ : ∃ e, e = ent E i := ⟨_, rfl⟩
     have sB := overB_snoc E i hlt k a b
     have sY := overY_snoc E i hlt k a y
     rw [← he] at c0 c1 c3 c4 hb hok sB sY
     simp only at c0 c1 c3 c4 hb sB sY
     have k1 := Sl.cells_eq hb
     have t1 := Sl.run_st (P := Tryz.prog) hb
     obtain ⟨w0, hw0⟩ : ∃ w0, w0 = wr.alloc (.cells #[.int .i64 bl, .int .i64 ea, V i, .int .i64 by_, .bool te] 100) := ⟨_, rfl⟩
     obtain ⟨g, hg⟩ : ∃ g, g = wr.heap.size := ⟨_, rfl⟩
     have x0 : Ext wr w0 := by rw [hw0]; exact (Mod.refl _ _).alloc _
     have h0 : w0.heap[g]? = some (.cells #[.int .i64 bl, .int .i64 ea, V i, .int .i64 by_, .bool te] 100 (0, 0)) := by rw [hw0, hg]; simp only [heap_alloc_if, if_true]
     have hgF : ¬ (v1.ownBlock = some g ∨ y2.ownBlock = some g) := fun h => h.elim (fun h => by have := ob.lt h; omega) (fun h => by have := oy.lt h; omega)
     have ob0 := ob.ext x0
     have oy0 := oy.ext x0
     have hfpV : ∀ q, fp (V i) q → ¬ (v1.ownBlock = some q ∨ y2.ownBlock = some q) := fun q hq h => by have := Sl.lt (HIN.out.bs i hlt) (by decide) hq; have := hF q h; omega
     have hb0 := BytesAt.ext hb x0
     have le := Sl.run_len (P := Tryz.prog) hb IB.und 3
     have M0 : Mod (fun q => v1.ownBlock = some q ∨ y2.ownBlock = some q) w2 w0 := xr.ext x0
     have HG := Lib.hid (And.intro hw0 hg)
     have H0 := Lib.hid (And.intro h0 (And.intro hgF (And.intro hb0 (And.intro hfpV M0))))
     have HS := Lib.hid (And.intro sB sY)
     have OO := Lib.hid (And.intro ob0 oy0)
     have hbl := hok.len
     have hat := hok.at_
     have hyb : I64 by_ := by have := hok.by_; simp only at this; unfold I64; omega
     simp only at hbl hat
     have HYB := Lib.hid hyb
     obtain ⟨d0, d1, d2, d3⟩ : w0.cell? ⟨g, 0, none⟩ = some (.int .i64 bl) ∧ w0.cell? ⟨g, 1, none⟩ = some (.int .i64 ea) ∧ w0.cell? ⟨g, 2, none⟩ = some (V i) ∧ w0.cell? ⟨g, 3, none⟩ = some (.int .i64 by_) := by simp [World.cell?, h0]
     clear he sB sY hw0 hg x0 h0 ob oy hb hb0 hinr XR xr M0 ob0 oy0 hyb hok hF hfpV hgF
     go_upto_region 7 with fail
     rw [← HG.out.1, ← HG.out.2]
     by_cases hk : bl = k
     · have hk' : (bl != k) = false := by rw [bne_eq_false_iff_eq]; exact hk
       obtain ⟨B0, hB0⟩ : ∃ B0, B0 = overB (E.take i) k a b := ⟨_, rfl⟩
       obtain ⟨Y0, hY0⟩ : ∃ Y0, Y0 = overY (E.take i) k a y := ⟨_, rfl⟩
       have lB : B0.length = b.length := by rw [hB0]; exact overB_len _ _ _ _
       have lY : Y0.length = y.length := by rw [hY0]; exact overY_len _ _ _ _
       have HBY := Lib.hid (And.intro hB0 hY0)
       rw [← hB0, ← hY0] at OO
       clear hB0 hY0 c0 c1 c2 c3 c4 k1 t1
       go_wp2_with fail
       go_loopw [45] (fun s45 wz => ∃ j : Nat, j ≤ eb.length ∧ s45 = .int .i64 (j : Int) ∧ Mod (fun q => v1.ownBlock = some q ∨ y2.ownBlock = some q) w0 wz ∧
        Own wz 5 1 v1 b.length ((layB ea (eb.take j) a B0).map bv) ∧ Own wz 3 1 y2 y.length ((layY ea j by_ a Y0).map iv)) (fun j _ => eb.length - (intOf j).toNat)
       case atStart => exact ⟨0, Nat.zero_le _, rfl, Mod.refl _ _, by rw [List.take_zero, layB_nil]; exact OO.out.1, by rw [layY_nil]; exact OO.out.2⟩
       case round =>
        obtain ⟨j, hj, rfl, xz, ob, oy⟩ := hrel
        by_cases hjl : j < eb.length
        · have hjl' : (j : Int) < (eb.length : Int) := by omega
          have iV := Sl.run_idx (P := Tryz.prog) H0.out.2.2.1 IB.und IB.size .i64 j hjl
          simp only [Nat.mul_one] at iV
          have hbr := BytesAt.mod H0.out.2.2.1 xz (fun q hq => H0.out.2.2.2.1 q hq)
          have cV : wr.cell? (at_ (V i) j) = some (.int .u8 (eb[j].toNat : Int)) := BytesAt.cell hbr hjl
          have hgr := xz.blk H0.out.1 H0.out.2.1
          obtain ⟨d1, d3⟩ : wr.cell? ⟨g, 1, none⟩ = some (.int .i64 ea) ∧ wr.cell? ⟨g, 3, none⟩ = some (.int .i64 by_) := by simp [World.cell?, hgr]
          have hpl : IntKind.i64.wrap (ea + (j : Int)) = ea + j := IntWalk.i64_in _ (by omega)
          have hpu : IntKind.u64.wrap (ea + (j : Int)) = ea + j := IntWalk.u64_in _ (by omega)
          have HGR := Lib.hid hgr
          clear hbr hgr
          rcases (by omega : ea + (j : Int) < a ∨ (a ≤ ea + (j : Int) ∧ a + b.length ≤ ea + (j : Int)) ∨ (a ≤ ea + (j : Int) ∧ ea + (j : Int) < a + b.length)) with hp | ⟨hp, hq⟩ | ⟨hp, hq⟩
          · have HF := Lib.hid (And.intro xz (And.intro ob oy))
            clear xz ob oy
            go_wp2_with fail
            refine ⟨⟨_, _, _, _, _, ⟨j + 1, by omega, by go_num, HF.out.1, by rw [layB_out (.inl hp)]; exact HF.out.2.1, by rw [layY_out (.inl hp)]; exact HF.out.2.2⟩, rfl, rfl, rfl, rfl, rfl⟩, ?_⟩
            simp [intOf]; omega
          · have HF := Lib.hid (And.intro xz (And.intro ob oy))
            have hsub : IntKind.u64.wrap (ea + (j : Int) - IntKind.u64.wrap a) = ea + j - a := u64_sub_in (by omega) ha hp
            have hbu : IntKind.u64.wrap (b.length : Int) = b.length := IntWalk.u64_in _ (by omega)
            have hnl : ¬ (ea + (j : Int) - a < (b.length : Int)) := by omega
            clear xz ob oy
            go_wp2_with fail
            go_roundw
            case rel => exact ⟨j + 1, by omega, by go_num, HF.out.1, by rw [layB_out (.inr (by omega))]; exact HF.out.2.1, by rw [layY_out (.inr (by have := HL.out; omega))]; exact HF.out.2.2⟩
            case measure => simp [intOf]; omega
          · have hsub : IntKind.u64.wrap (ea + (j : Int) - IntKind.u64.wrap a) = ea + j - a := u64_sub_in (by omega) ha hp
            have hbu : IntKind.u64.wrap (b.length : Int) = b.length := IntWalk.u64_in _ (by omega)
            obtain ⟨z, hz⟩ : ∃ z : Nat, ea + (j : Int) - a = z := ⟨(ea + (j : Int) - a).toNat, by omega⟩
            rw [hz] at hsub
            have hzl : z < b.length := by omega
            have hzl' : (z : Int) < (b.length : Int) := by omega
            have iv1 := ob.sl.run_idx (P := Tryz.prog) IB.und IB.size .u64 z hzl
            have iy1 := oy.sl.run_idx (P := Tryz.prog) II.und II.size .u64 z (by have := HL.out; omega)
            simp only [Nat.mul_one] at iv1 iy1
            have fv := ob.frozen z (by omega)
            obtain ⟨uv, cv⟩ : ∃ u, wr.cell? (at_ v1 z) = some u := ⟨_, ob.sl.cell z _ (List.getElem?_eq_getElem (by have := ob.sl.len; omega))⟩
            have os := ob.set (by omega) z (bv eb[j])
            rw [← List.map_set, ← layB_in hjl hz (by omega)] at os
            have fq : v1.ownBlock = some (at_ v1 z).block := ob.at_block (by omega) _
            have M1 : Mod (fun q => v1.ownBlock = some q) wr (wr.setCell (at_ v1 z) (bv eb[j])) := Mod.setCell (F := fun q => v1.ownBlock = some q) (Mod.refl _ _) (.inl fq) _
            have oy1 := oy.mod M1 (fun q hq h => ob.apart oy (by decide) h hq)
            have fy := oy1.frozen z (by have := HL.out; omega)
            obtain ⟨uy, cy⟩ : ∃ u, (wr.setCell (at_ v1 z) (bv eb[j])).cell? (at_ y2 z) = some u := ⟨_, oy1.sl.cell z _ (List.getElem?_eq_getElem (by have := oy1.sl.len; have := HL.out; omega))⟩
            have oys := oy1.set (by have := HL.out; omega) z (iv by_)
            rw [← List.map_set, ← layY_in hz (by have := HL.out; omega)] at oys
            have fqy : y2.ownBlock = some (at_ y2 z).block := oy1.at_block (by have := HL.out; omega) _
            have M2 : Mod (fun q => y2.ownBlock = some q) (wr.setCell (at_ v1 z) (bv eb[j])) ((wr.setCell (at_ v1 z) (bv eb[j])).setCell (at_ y2 z) (iv by_)) := Mod.setCell (F := fun q => y2.ownBlock = some q) (Mod.refl _ _) (.inl fqy) _
            have d3' : (wr.setCell (at_ v1 z) (bv eb[j])).cell? ⟨g, 3, none⟩ = some (.int .i64 by_) := by have := M1.blk HGR.out (fun h => H0.out.2.1 (.inl h)); simp [World.cell?, this]
            have OS := Lib.hid (And.intro ((xz.trans' M1 (fun q h => .inl (.inl h))).trans' M2 (fun q h => .inl (.inr h))) (And.intro (os.mod M2 (fun q hq h => os.apart oy1 (by decide) hq h)) oys))
            clear os fq M1 oy1 oys fqy M2 ob oy xz
            simp only [bv] at fy cy d3'
            go_wp2_with fail
            go_region
            go_wp2_with fail
            go_roundw
            case rel => exact ⟨j + 1, by omega, by go_num, OS.out.1.drew, OS.out.2.1, OS.out.2.2⟩
            case measure => simp [intOf]; omega
        · have hjl' : ¬ (j : Int) < (eb.length : Int) := by omega
          obtain rfl : j = eb.length := by omega
          rw [List.take_length] at ob
          have HF := Lib.hid (And.intro xz (And.intro ob oy))
          clear xz ob oy
          go_wp2_with fail
          go_roundw
          case rel => exact ⟨i + 1, by omega, by go_num, H0.out.2.2.2.2.trans HF.out.1, by rw [HS.out.1, if_pos hk, ← HBY.out.1]; exact HF.out.2.1, by rw [HS.out.2, if_pos hk, ← HBY.out.2]; exact HF.out.2.2⟩
          case measure => simp [intOf]; omega
     · have hk' : (bl != k) = true := by rw [bne_iff_ne]; exact hk
       clear c0 c1 c2 c3 c4 k1 t1
       go_wp2_with fail
       go_roundw
       case rel => exact ⟨i + 1, by omega, by go_num, H0.out.2.2.2.2, by rw [HS.out.1, if_neg hk]; exact OO.out.1, by rw [HS.out.2, if_neg hk]; exact OO.out.2⟩
       case measure => simp [intOf]; omega
   · have hlt' : ¬ (i : Int) < (E.length : Int) := by omega
     obtain rfl : i = E.length := by omega
     rw [List.take_length] at ob oy
     have HF := Lib.hid (And.intro xr (And.intro ob oy))
     clear xr ob oy
     go_wp2_with fail
     try rw [Exit.noGoto_ret]
     go_ret2
     obtain ⟨xr, ob, oy⟩ := HF.out
     have hF : ∀ q, (v1.ownBlock = some q ∨ y2.ownBlock = some q) → w.heap.size ≤ q := fun q h => h.elim (HO.out.2.2.2.1 q) (HO.out.2.2.2.2 q)
     exact ⟨_, _, rfl, by rw [HE.out.1, overB_len]; exact ob, by rw [HE.out.2, overY_len]; exact oy, HO.out.2.2.1.trans' xr (fun q h => .inr (hF q h)), HO.out.2.2.2.1, HO.out.2.2.2.2⟩
end Go.Proofs.YtbhocahmhmafmaaGreat
