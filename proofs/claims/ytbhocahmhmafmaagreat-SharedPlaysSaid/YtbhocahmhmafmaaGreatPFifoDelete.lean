/-
  The contract of slices.Delete(l, 0, 1) on a buffer's entries. No condition. The contract of (*fifo.Queue).Flush. No condition. The contracts of (*fifo.Queue).Drain, Copy, Room, Len. No condition. The contract of (*fifo.Queue).Tear. No condition. The contracts of (*fifo.Queue).Copy, renlaw19.plain. No condition.
-/
import Derived.Test.YtbhocahmhmafmaaGreatPFifoAt
import Derived.Test.YtbhocahmhmafmaaGreatPBlkLaw
import Derived.Deep.RegionLaw
import Derived.RegionTactic
import Derived.Test.YtbhocahmhmafmaaGreatPBlkAt
import Derived.Deep.LoopGhost
import Derived.Deep.RegionHeld3
import Derived.BigRegion
import Derived.Test.YtbhocahmhmafmaaGreatPPlan
namespace Go.Ren
open Go.RowKit
set_option linter.unusedVariables false
theorem Own.shrink {w : World} {e sz g n cap k : Nat} {xs : List Value} (h : Own w e sz (.slice (some ⟨g, 0, none⟩) n cap) n xs) (hn : 0 < n) (hk : k ≤ n) : Own w e sz (.slice (some ⟨g, 0, none⟩) k cap) k (xs.take (k * sz)) := by
 have hkn : k * sz ≤ n * sz := Nat.mul_le_mul_right _ hk
 have hx : xs.length = n * sz := h.1
 refine ⟨by rw [List.length_take]; omega, ?_⟩
 rcases h.2 with ⟨h1, h2⟩ | ⟨g', cap', cur, h1, h3, h4, h5, h6, h7, h8⟩
 · cases h1
 · injection h1 with h1 _ h9
   injection h1 with h1
   injection h1 with h1
   subst h1; subst h9
   exact .inr ⟨g, cap, cur, rfl, h3, h4, Nat.le_trans hk h5, h6, h7, by rw [← h8, List.take_take, Nat.min_eq_left hkn]⟩
theorem run_clear_one {P : Program} (w : World) (t e ty : TypeId) (z : Value) (ht : P.underlying t = some (.slice e)) (hv : ∀ w, (zeroValue e).run P w = .ok z w) (vs : List Value) (hz : (Builtin.zeroCells z.cells 1).toList = vs) (h1 : ∀ u ∈ vs, u.oneCell' = true) (b o c : Nat)
 (hc : ∀ j, j < vs.length → (w.cell? ⟨b, o + j, none⟩).isSome = true) (hf : ∀ j, j < vs.length → w.frozen? ⟨b, o + j, none⟩ = false) :
 (Builtin.clear_ #[t] ty #[.slice (some ⟨b, o, none⟩) 1 c]).run P w = .ok (.tuple #[]) (w.setCells b o vs) := by
 have hst := run_storeCells_cells (P := P) b o vs 0 w (by simpa using hc) (by simpa using hf) h1
 simp only [Nat.add_zero] at hst
 simp [Builtin.clear_, run_underlying ht, hv, hz, hst]
end Go.Ren
namespace Go.Proofs.YtbhocahmhmafmaaGreat
open Go.Ren Go.RowKit
set_option linter.unusedVariables false
def zero5 : List Value := [.int .i64 0, .int .i64 0, .slice none 0 0, .int .i64 0, .bool false]
theorem zero5_is : (Builtin.zeroCells (Value.agg #[.int .i64 0, .int .i64 0, .slice none 0 0, .int .i64 0, .bool false]).cells 1).toList = zero5 := by
 unfold Builtin.zeroCells Value.cells zero5
 apply List.ext_getElem
 · simp
 · intro i h1 h2
   simp at h2
   match i, h2 with
   | 0, _ => simp
   | 1, _ => simp
   | 2, _ => simp
   | 3, _ => simp
   | 4, _ => simp
set_option maxRecDepth 100000 in
set_option maxHeartbeats 800000 in
theorem delete_any (w : World) (g n cap : Nat) (xs : List Value) (h : Own w 100 5 (.slice (some ⟨g, 0, none⟩) (n + 1) cap) (n + 1) xs) (h1 : ∀ u ∈ xs, u.oneCell' = true) (hc : n + 1 ≤ cap) (hm : cap ≤ maxLen) :
 Calls Tryz.prog 96 #[.slice (some ⟨g, 0, none⟩) (n + 1) cap, .int .i64 0, .int .i64 1] w fun e w' => e = .returned (.slice (some ⟨g, 0, none⟩) n cap) ∧
  Own w' 100 5 (.slice (some ⟨g, 0, none⟩) n cap) n (xs.drop 5) ∧ Mod (fun q => q = g) w w' := by
 have hm' : cap ≤ 9223372036854775807 := by simpa only [maxLen] using hm
 have hx : xs.length = (n + 1) * 5 := h.1
 obtain ⟨i0, hi0, hz0, hz1, hz2⟩ := info_parts IE.info
 have und := IE.und
 go_enter Tryz.func96, Tryz.ntmps96
 go_wp2_with fail
 have hcl : ∀ j, j < (n + 1) * 5 → w.cell? ⟨g, j, none⟩ = xs[j]? := fun j hj => by
  have := h.sl.cell j _ (List.getElem?_eq_getElem (by omega))
  rw [at_own] at this
  rw [this, List.getElem?_eq_getElem (by omega)]
 have hfz : ∀ j, j < (n + 1) * 5 → w.frozen? ⟨g, j, none⟩ = false := fun j hj => by
  have := h.frozen j (by omega)
  rwa [at_own] at this
 obtain ⟨A, hA, hsrc⟩ : ∃ A : Addr, (if cap = 1 then some (⟨g, 0, none⟩ : Addr) else some ⟨g, 5, none⟩) = some A ∧ Hid (∀ t u, (xs.drop 5)[t]? = some u → w.drew.cell? (A.add t) = some u) := by
  by_cases hc1 : cap = 1
  · refine ⟨⟨g, 0, none⟩, by rw [if_pos hc1], Lib.hid fun t u hu => ?_⟩
    rw [List.getElem?_drop, List.getElem?_eq_none (by omega)] at hu; cases hu
  · refine ⟨⟨g, 5, none⟩, by rw [if_neg hc1], Lib.hid fun t u hu => ?_⟩
    rw [List.getElem?_drop] at hu
    have ht : 5 + t < (n + 1) * 5 := by
     rcases Nat.lt_or_ge (5 + t) ((n + 1) * 5) with h | h
     · exact h
     · rw [List.getElem?_eq_none (by omega)] at hu; cases hu
    rw [Addr.add_lit]
    exact (hcl (5 + t) ht).trans hu
 have hsp := Lib.hid (show ∀ j, j < (xs.drop 5).length → (w.drew.cell? ⟨g, 0 + 0 * 5 + j, none⟩).isSome = true ∧ w.drew.frozen? ⟨g, 0 + 0 * 5 + j, none⟩ = false from fun j hj => by
  have hj' : j < (n + 1) * 5 := by simp at hj; omega
  rw [show 0 + 0 * 5 + j = j by omega]
  exact ⟨by show (w.cell? _).isSome = true; rw [hcl j hj', List.getElem?_eq_getElem (by omega)]; rfl, hfz j hj'⟩)
 have HH := Lib.hid (And.intro h hcl)
 have z1 : (1 : Int) ≤ (n : Int) + 1 := by omega
 have hxl := Lib.hid hx
 clear hcl hfz h hx
 go_region_law (refine step_append_room rfl (.tmp 22) (.tmp 25) 134 rfl 100 i0 5 und hi0 hz1 g 0 0 cap rfl A n (cap - 1) (xs.drop 5) rfl (by have := hxl.out; simp; omega) hsrc.out (fun u hu => h1 u (List.mem_of_mem_drop hu)) (by omega) hsp.out ?_)
 obtain ⟨h, hcl⟩ := HH.out
 have hx := hxl.out
 have o1 : Own (w.drew.setCells g 0 (xs.drop 5)) 100 5 (.slice (some ⟨g, 0, none⟩) (n + 1) cap) (n + 1) (splice xs 0 (xs.drop 5)) := Own.setCells (by omega) _ _ _ _ (h.ext (Mod.drew (Mod.refl _ _))) (by simp; omega)
 have M1 : Mod (fun q => q = g) w (w.drew.setCells g 0 (xs.drop 5)) := Mod.setCells (F := fun q => q = g) (.inl rfl) _ _ _ (Mod.drew (Mod.refl _ _))
 obtain ⟨W1, hW1⟩ : ∃ W1, W1 = w.drew.setCells g 0 (xs.drop 5) := ⟨_, rfl⟩
 rw [← hW1] at o1 M1
 have hc1 : ∀ j, j < zero5.length → (W1.cell? ⟨g, n * 5 + j, none⟩).isSome = true := fun j hj => by
  have hj' : j < 5 := hj
  have := o1.sl.cell (n * 5 + j) _ (List.getElem?_eq_getElem (by have := o1.1; omega))
  rw [at_own] at this; rw [this]; rfl
 have hf1 : ∀ j, j < zero5.length → W1.frozen? ⟨g, n * 5 + j, none⟩ = false := fun j hj => by
  have hj' : j < 5 := hj
  have := o1.frozen (n * 5 + j) (by omega)
  rwa [at_own] at this
 have hclr : ∀ ty, (Builtin.clear_ #[134] ty #[.slice (some ⟨g, n * 5, none⟩) 1 (cap - n)]).run Tryz.prog W1 = .ok (.tuple #[]) (W1.setCells g (n * 5) zero5) := fun ty => run_clear_one W1 _ 100 ty (.agg #[.int .i64 0, .int .i64 0, .slice none 0 0, .int .i64 0, .bool false]) IE.und (fun w => by simp [zeroValue, typeInfo, hi0, hz0]) zero5 zero5_is (by intro u hu; simp [zero5] at hu; rcases hu with rfl | rfl | rfl | rfl <;> rfl) g (n * 5) (cap - n) hc1 hf1
 go_simp
 rw [← hW1]
 clear hW1
 go_wp2_with fail
 go_ret
 have o2 := Own.setCells (by omega) zero5 (n * 5) _ _ o1 (by show n * 5 + 5 ≤ _; omega)
 have o3 := o2.shrink (k := n) (by omega) (by omega)
 refine ⟨rfl, ?_, Mod.setCells (F := fun q => q = g) (.inl rfl) _ _ _ M1⟩
 have e : (splice (splice xs 0 (xs.drop 5)) (n * 5) zero5).take (n * 5) = xs.drop 5 := by
  have hd : (xs.drop 5).length = n * 5 := by simp; omega
  have hs1 : (splice xs 0 (xs.drop 5)).length = xs.length := length_splice _ _ _ (by omega)
  apply List.ext_getElem?
  intro j
  rw [List.getElem?_take]
  by_cases hj : j < n * 5
  · rw [if_pos hj, splice_get _ _ _ (by rw [hs1]; show n * 5 + 5 ≤ _; omega), if_neg (by omega), splice_get _ _ _ (by omega), if_pos (by omega), Nat.sub_zero]
  · rw [if_neg hj, List.getElem?_eq_none (by omega)]
 rw [e] at o3
 exact o3
end Go.Proofs.YtbhocahmhmafmaaGreat
namespace Go.Proofs.YtbhocahmhmafmaaGreat
open Go.Ren Go.RowKit
set_option linter.unusedVariables false
theorem ecell_one (e : Ent) (v : Value) (j : Nat) (hv : v.oneCell' = true) : (ecell e v j).oneCell' = true := by
 unfold ecell; split; rfl; split; rfl; split; exact hv; split; rfl; rfl
theorem QueueIn.row_some {w : World} {pq : Nat} {lv : Value} {V : Nat → Value} {room : Nat} {E : List Ent} (h : QueueIn w pq lv V room E) (hn : 0 < E.length) : ∃ g cap, lv = .slice (some ⟨g, 0, none⟩) E.length cap ∧ E.length ≤ cap ∧ cap ≤ maxLen := by
 rcases h.row.2 with ⟨_, h2⟩ | ⟨g, cap, cur, rfl, _, hg, h1, h2, _⟩
 · omega
 · exact ⟨g, cap, rfl, h1, h2⟩
theorem qflush_nil (w : World) (p q : Value) (room : Nat) (S : Nat → Prop) (h : QueueAt w p room [] S) :
 Calls Tryz.prog 45 #[p, q] w fun e w' => e = .returned (.bool false) ∧ w = w' := by
 obtain ⟨pq, lv, V, rfl, hin, _⟩ := h.ex
 have c0 := hin.c1
 have l0 := hin.row.sl.run_len (P := Tryz.prog) IE.und 3
 simp only [List.length_nil, Int.natCast_zero] at l0
 clear hin h
 go_enter Tryz.func45, Tryz.ntmps45
 go_wp2
 go_ret
 exact ⟨rfl, rfl⟩
theorem queue_pop {w w2 : World} {pq room g n cap : Nat} {V : Nat → Value} {e : Ent} {E : List Ent} (hn : E.length = n) (hin : QueueIn w pq (.slice (some ⟨g, 0, none⟩) (n + 1) cap) V room (e :: E)) (M2 : Mod (fun q => q = g) w w2)
 (o : Own w2 100 5 (.slice (some ⟨g, 0, none⟩) n cap) n ((flat 5 (n + 1) (fun i j => ecell (ent (e :: E) i) (V i) j)).drop 5)) :
 QueueIn (w2.setCell ⟨pq, 1, none⟩ (.slice (some ⟨g, 0, none⟩) n cap)) pq (.slice (some ⟨g, 0, none⟩) n cap) (fun i => V (i + 1)) room E := by
 have hl : (e :: E).length = n + 1 := by simp [hn]
 have R := hin.row
 rw [hl] at R
 have C0 := M2.blk hin.box (fun h => R.apart_obj hin.box (by decide) (by simp [Value.ownBlock, h]))
 have Ms : Mod (fun q => q = pq) w2 (w2.setCell ⟨pq, 1, none⟩ (.slice (some ⟨g, 0, none⟩) n cap)) := Mod.setCell (F := fun q => q = pq) (Mod.refl _ _) (.inl rfl) _
 have far : ∀ i k, i < n → fp (V (i + 1)) k → k ≠ pq ∧ g ≠ k := fun i k hi hk => by
  have := hin.far (i + 1) k (by rw [hl]; omega) hk
  simpa [Value.ownBlock] using this
 refine ⟨?_, ?_, ?_, ?_, ?_, hin.rng, by have := hin.cnt; rw [hl] at this; omega⟩
 · simp [World.setCell, Array.getElem?_modify, C0]
 · rw [hn]
   rw [flat_drop 5 n _ (by decide)] at o
   simp only [ent_cons_succ] at o
   exact o.mod Ms (fun k hk h => by subst h; exact o.apart_obj C0 (by decide) hk)
 · intro i hi
   rw [hn] at hi
   have hb := hin.bs (i + 1) (by rw [hl]; omega)
   rw [ent_cons_succ] at hb
   exact BytesAt.mod (BytesAt.mod hb M2 (fun k hk h => (far i k hi hk).2 h.symm)) Ms (fun k hk => (far i k hi hk).1)
 · intro i k hi hk
   rw [hn] at hi
   have := far i k hi hk
   simpa [Value.ownBlock] using this
 · intro i hi
   rw [hn] at hi
   have := hin.ok (i + 1) (by rw [hl]; omega)
   rwa [ent_cons_succ] at this
set_option maxRecDepth 100000 in
set_option maxHeartbeats 1600000 in
theorem qflush_cons (w : World) (p q : Value) (room : Nat) (e : Ent) (E : List Ent) (S : Nat → Prop) (h : QueueAt w p room (e :: E) S) (m : List Blk) (T : Nat → Prop) (hm : BlocksAt w q m T) (hd : ∀ k, S k → ¬ T k) :
 Calls Tryz.prog 45 #[p, q] w fun r w' => r = .returned (.bool true) ∧ ∃ S', QueueAt w' p room E S' ∧ BlocksAt w' q (qflushM (e :: E) m) T ∧ Mod (fun k => S k ∨ T k) w w' ∧ ∀ k, S' k → S k := by
 obtain ⟨pq, lv, V, rfl, hin, hS⟩ := h.ex
 obtain ⟨n, hn⟩ : ∃ n, E.length = n := ⟨_, rfl⟩
 have hl : (e :: E).length = n + 1 := by simp [hn]
 obtain ⟨g, cap, rfl, hc1, hc2⟩ := hin.row_some (by rw [hl]; omega)
 rw [hl] at hin hc1 hS
 obtain ⟨c1, c2, c3, c4, c5⟩ := hin.cells (i := 0) (by rw [hl]; omega)
 rw [ent_cons_zero] at c1 c2 c4 c5
 simp only [Nat.zero_mul, at_own, Nat.zero_add] at c1 c2 c3 c4 c5
 have hb := hin.bs 0 (by rw [hl]; omega)
 have hok := hin.ok 0 (by rw [hl]; omega)
 rw [ent_cons_zero] at hb hok
 have c0 := hin.c1
 have k1 := Sl.cells_eq hb
 have t1 := Sl.run_st (P := Tryz.prog) hb
 have hcm : cap ≤ 9223372036854775807 := by simpa only [maxLen] using hc2
 have hby := hok.by_
 have hlb := hok.len
 have HQ := Lib.hid (And.intro hin (And.intro hS (And.intro hm (And.intro hd (And.intro hb (And.intro hn (And.intro hl hok)))))))
 obtain ⟨V0, hV0⟩ : ∃ x, x = V 0 := ⟨_, rfl⟩
 rw [← hV0] at c3 k1 t1
 have HV := Lib.hid hV0
 clear h hin hS hm hd hb hn hl hok hV0
 go_enter Tryz.func45, Tryz.ntmps45
 go_wp2_with fail
 obtain ⟨w0, hw0⟩ : ∃ w0, w0 = w.alloc (.cells #[.int .i64 e.blk, .int .i64 e.at_, V0, .int .i64 e.by_, .bool e.tears] 100) := ⟨_, rfl⟩
 have x0 : Ext w w0 := by rw [hw0]; exact (Mod.refl _ _).alloc _
 rw [← hw0]
 clear hw0
 obtain ⟨hin, hS, hm, hd, hb, hn, hl, hok⟩ := HQ.out
 refine (write_any _ _ _ _ (hm.ext x0) _ _ _ e.b (by rw [HV.out]; exact hb.ext x0) (by omega) _ (show I64 e.by_ from ⟨by omega, by omega⟩)).mono ?_
 rintro r w1 ⟨rfl, B1, m1⟩
 have M1 : Mod T w w1 := (x0.mod T).trans m1
 have hin1 := hin.mod M1 (fun k hk => hd k ((hS k).2 (by rw [← hl]; exact hk)))
 have R1 := hin1.row
 rw [hl] at R1
 have d0 := hin1.c1
 have hpq : pq < w.heap.size := lt_of_block hin.box
 have HB := Lib.hid (And.intro B1 (And.intro M1 hin1))
 clear hin hS hm hd hb hn hl hok x0 m1 hin1 B1 M1 c0 c1 c2 c3 c4 c5 k1 t1
 go_wp2_with fail
 have hone : ∀ u ∈ flat 5 (n + 1) (fun i j => ecell (ent (e :: E) i) (V i) j), u.oneCell' = true := one_flat fun i j hi _ => ecell_one _ _ _ (Sl.one (HB.out.2.2.bs i (by rw [HQ.out.2.2.2.2.2.2.1]; exact hi)))
 refine (delete_any _ g n cap _ R1 hone hc1 hc2).mono ?_
 rintro r w2 ⟨rfl, o2, M2⟩
 have C2 := M2.blk HB.out.2.2.box (fun h => R1.apart_obj HB.out.2.2.box (by decide) (by simp [Value.ownBlock, h]))
 have p2 : w2.cell? ⟨pq, 1, none⟩ = some (.slice (some ⟨g, 0, none⟩) (n + 1) cap) := by simp [World.cell?, C2]
 have f2 : w2.frozen? ⟨pq, 1, none⟩ = false := by simp [World.frozen?, C2]
 have P := queue_pop HQ.out.2.2.2.2.2.1 HB.out.2.2 M2 o2
 have HP := Lib.hid (And.intro P M2)
 have HR := Lib.hid R1
 clear P M2 C2 o2 R1 hone d0
 go_wp2_with fail
 go_ret
 obtain ⟨P, M2⟩ := HP.out
 obtain ⟨B1, M1, hin1⟩ := HB.out
 obtain ⟨hin, hS, hm, hd, hb, hn, hl, hok⟩ := HQ.out
 have hg : S g := (hS g).2 (.inr (.inl (by simp [Value.ownBlock])))
 have hp : S pq := (hS pq).2 (.inl rfl)
 have M3 : Mod (fun q => q = g ∨ q = pq) w1 (w2.setCell ⟨pq, 1, none⟩ (.slice (some ⟨g, 0, none⟩) n cap)) := (M2.weak (fun k h => .inl (.inl h))).setCell (.inl (.inr rfl)) _
 refine ⟨rfl, QueueFp pq (.slice (some ⟨g, 0, none⟩) n cap) (fun i => V (i + 1)) E.length, ⟨pq, _, _, rfl, P, fun q => Iff.rfl⟩, B1.mod M3 (fun k hk h => ?_), (M1.weak (fun k h => .inl (.inr h))).trans' M3 (fun k h => .inl (.inl (h.elim (fun h => h ▸ hg) (fun h => h ▸ hp)))), fun k hk => ?_⟩
 · rcases h with rfl | rfl
   · exact hd _ hg hk
   · exact hd _ hp hk
 · rcases hk with rfl | hk | ⟨i, hi, hk⟩
   · exact hp
   · simp [Value.ownBlock] at hk; exact hk ▸ hg
   · exact (hS k).2 (.inr (.inr ⟨i + 1, by omega, hk⟩))
theorem qflush_any (w : World) (p q : Value) (room : Nat) (E : List Ent) (S : Nat → Prop) (h : QueueAt w p room E S) (m : List Blk) (T : Nat → Prop) (hm : BlocksAt w q m T) (hd : ∀ k, S k → ¬ T k) :
 Calls Tryz.prog 45 #[p, q] w fun r w' => r = .returned (.bool (!E.isEmpty)) ∧ ∃ S', QueueAt w' p room E.tail S' ∧ BlocksAt w' q (qflushM E m) T ∧ Mod (fun k => S k ∨ T k) w w' ∧ ∀ k, S' k → S k := by
 cases E with
 | nil => exact (qflush_nil w p q room S h).mono fun r w' ⟨h1, h2⟩ => by subst h2; exact ⟨h1, S, h, hm, Mod.refl _ _, fun _ h => h⟩
 | cons e E => exact qflush_cons w p q room e E S h m T hm hd
end Go.Proofs.YtbhocahmhmafmaaGreat
namespace Go.Proofs.YtbhocahmhmafmaaGreat
open Go.Ren Go.RowKit
set_option linter.unusedVariables false
def DrainRel (p q : Value) (room : Nat) (E : List Ent) (m : List Blk) (S T : Nat → Prop) (w : World) (k : Nat) (wr : World) : Prop :=
 ∃ E' m' S', E'.length = k ∧ QueueAt wr p room E' S' ∧ BlocksAt wr q m' T ∧ qdrainM E' m' = qdrainM E m ∧ Mod (fun k => S k ∨ T k) w wr ∧ ∀ k, S' k → S k
set_option maxRecDepth 100000 in
theorem qdrain_any (w : World) (p q : Value) (room : Nat) (E : List Ent) (S : Nat → Prop) (h : QueueAt w p room E S) (m : List Blk) (T : Nat → Prop) (hm : BlocksAt w q m T) (hd : ∀ k, S k → ¬ T k) :
 Calls Tryz.prog 95 #[p, q] w fun r w' => r = .returned (.tuple #[]) ∧ ∃ S', QueueAt w' p room [] S' ∧ BlocksAt w' q (qdrainM E m) T ∧ Mod (fun k => S k ∨ T k) w w' ∧ ∀ k, S' k → S k := by
 have R0 : DrainRel p q room E m S T w E.length w := ⟨E, m, S, rfl, h, hm, rfl, Mod.refl _ _, fun _ h => h⟩
 have HD := Lib.hid hd
 clear h hm hd
 go_enter Tryz.func95, Tryz.ntmps95
 go_wp2_with fail
 go_loopg [] E.length (fun k wr => DrainRel p q room E m S T w k wr)
 case atStart => exact R0
 case round =>
  clear R0
  obtain ⟨E', m', S', hk, hq, hb, he, hM, hS⟩ := hrel
  cases E' with
  | nil =>
   have H := Lib.hid (And.intro he (And.intro hb (And.intro hM (And.intro hS hq))))
   clear he hk hb hM hS
   go_wp2_with fail
   refine (qflush_nil _ _ _ _ _ hq).mono ?_
   rintro r w1 ⟨rfl, rfl⟩
   clear hq
   go_wp2_with fail
   go_end0
   obtain ⟨he, hb, hM, hS, hq⟩ := H.out
   refine ⟨rfl, S', hq, ?_, hM, hS⟩
   rw [← he]; exact hb
  | cons e E' =>
   have H := Lib.hid (And.intro he (And.intro hk (And.intro hM hS)))
   clear he hk hM hS
   go_wp2_with fail
   refine (qflush_cons _ _ _ _ _ _ _ hq _ _ hb (fun k hk => HD.out k (H.out.2.2.2 k hk))).mono ?_
   rintro r w1 ⟨rfl, S1, Q1, B1, M1, s1⟩
   have H1 := Lib.hid (And.intro Q1 (And.intro B1 (And.intro M1 s1)))
   clear Q1 B1 M1 s1 hq hb
   go_wp2_with fail
   go_roundg E'.length
   case rel =>
    obtain ⟨he, hk, hM, hS⟩ := H.out
    obtain ⟨Q1, B1, M1, s1⟩ := H1.out
    refine ⟨E', _, S1, rfl, Q1, B1, ?_, hM.trans' M1 (fun i hi => .inl (hi.elim (fun h => .inl (hS i h)) .inr)), fun k h => hS k (s1 k h)⟩
    rw [← qdrainM_cons]; exact he
   case measure =>
    have := H.out.2.1
    simp at this; omega
theorem qroom_any (w : World) (p : Value) (room : Nat) (E : List Ent) (S : Nat → Prop) (h : QueueAt w p room E S) :
 Calls Tryz.prog 44 #[p] w fun r w' => r = .returned (.int .i64 (room : Int)) ∧ w = w' := by
 obtain ⟨pq, lv, V, rfl, hin, hS⟩ := h.ex
 have c0 := hin.c0
 clear hin hS h
 go_enter Tryz.func44, Tryz.ntmps44
 go_wp2
 go_ret
 exact ⟨rfl, rfl⟩
end Go.Proofs.YtbhocahmhmafmaaGreat
namespace Go.Proofs.YtbhocahmhmafmaaGreat
open Go.Ren Go.RowKit
set_option linter.unusedVariables false
theorem queue_tear {w : World} {pq room g n cap : Nat} {V : Nat → Value} {e : Ent} {E : List Ent} (hn : E.length = n) (ht : tearsE e = true) (hin : QueueIn w pq (.slice (some ⟨g, 0, none⟩) (n + 1) cap) V room (e :: E)) :
 QueueIn (((w.setCell ⟨g, 1, none⟩ (.int .i64 (tearEnt e).at_)).setCell ⟨g, 2, none⟩ (sub_ (V 0) (e.b.length / 2) e.b.length 1)).setCell ⟨g, 4, none⟩ (.bool false)) pq (.slice (some ⟨g, 0, none⟩) (n + 1) cap) (updV V 0 (sub_ (V 0) (e.b.length / 2) e.b.length 1)) room (tearEnt e :: E) ∧
  Mod (fun q => q = g) w (((w.setCell ⟨g, 1, none⟩ (.int .i64 (tearEnt e).at_)).setCell ⟨g, 2, none⟩ (sub_ (V 0) (e.b.length / 2) e.b.length 1)).setCell ⟨g, 4, none⟩ (.bool false)) ∧
  ∀ k, fp (sub_ (V 0) (e.b.length / 2) e.b.length 1) k → fp (V 0) k := by
 have hl : (e :: E).length = n + 1 := by simp [hn]
 have hl2 : (tearEnt e :: E).length = n + 1 := by simp [hn]
 have R := hin.row
 rw [hl] at R
 have hgl := R.lt (k := g) (by simp [Value.ownBlock])
 have M : Mod (fun q => q = g) w (((w.setCell ⟨g, 1, none⟩ (.int .i64 (tearEnt e).at_)).setCell ⟨g, 2, none⟩ (sub_ (V 0) (e.b.length / 2) e.b.length 1)).setCell ⟨g, 4, none⟩ (.bool false)) :=
  Mod.setCell (F := fun q => q = g) (Mod.setCell (F := fun q => q = g) (Mod.setCell (F := fun q => q = g) (Mod.refl _ _) (.inl rfl) _) (.inl rfl) _) (.inl rfl) _
 have hb0 := hin.bs 0 (by rw [hl]; omega)
 rw [ent_cons_zero] at hb0
 have hok := hin.ok 0 (by rw [hl]; omega)
 rw [ent_cons_zero] at hok
 have hfp : ∀ k, fp (sub_ (V 0) (e.b.length / 2) e.b.length 1) k → fp (V 0) k := fun k hk => fp_sub (by rw [Sl.slen_eq hb0]; exact Nat.le_refl _) hk
 have far : ∀ i k, i < n + 1 → fp (V i) k → k ≠ pq ∧ g ≠ k := fun i k hi hk => by
  have := hin.far i k (by rw [hl]; omega) hk
  simpa [Value.ownBlock] using this
 refine ⟨⟨?_, ?_, ?_, ?_, ?_, hin.rng, by have := hin.cnt; rw [hl] at this; rw [hl2]; omega⟩, M, hfp⟩
 · exact M.blk hin.box (fun h => R.apart_obj hin.box (by decide) (by simp [Value.ownBlock, h]))
 · rw [hl2]
   have s1 := R.set (by omega) (0 * 5 + 1) (.int .i64 (tearEnt e).at_)
   have s2 := s1.set (by omega) (0 * 5 + 2) (sub_ (V 0) (e.b.length / 2) e.b.length 1)
   have s3 := s2.set (by omega) (0 * 5 + 4) (.bool false)
   rw [flat_set _ (by decide), flat_set _ (by decide), flat_set _ (by decide)] at s3
   simp only [at_own, Nat.zero_mul, Nat.zero_add] at s3
   refine cast ?_ s3
   congr 1
   refine flat_congr fun i j hi hj => ?_
   by_cases e0 : i = 0
   · subst e0
     rw [ent_cons_zero, ent_cons_zero, updV_same]
     match j, hj with
     | 0, _ => rfl
     | 1, _ => rfl
     | 2, _ => rfl
     | 3, _ => rfl
     | 4, _ => rfl
   · obtain ⟨i, rfl⟩ : ∃ k, i = k + 1 := ⟨i - 1, by omega⟩
     simp [ent_cons_succ, updV]
 · intro i hi
   rw [hl2] at hi
   by_cases e0 : i = 0
   · subst e0
     rw [ent_cons_zero, updV_same]
     have hh : e.b.length / 2 + (e.b.length - e.b.length / 2) = e.b.length := by omega
     have hc := cut_bytes hb0 (a := e.b.length / 2) (n := e.b.length - e.b.length / 2) (by omega)
     rw [hh] at hc
     have hcut : cut e.b (e.b.length / 2) (e.b.length - e.b.length / 2) = (tearEnt e).b := by
      simp only [cut, tearEnt]; exact List.take_of_length_le (by simp)
     rw [hcut] at hc
     exact BytesAt.mod hc M (fun k hk h => (far 0 k (by omega) (hfp k hk)).2 h.symm)
   · obtain ⟨i, rfl⟩ : ∃ k, i = k + 1 := ⟨i - 1, by omega⟩
     have hb := hin.bs (i + 1) (by rw [hl]; omega)
     rw [ent_cons_succ] at hb ⊢
     have e1 : updV V 0 (sub_ (V 0) (e.b.length / 2) e.b.length 1) (i + 1) = V (i + 1) := by simp [updV]
     rw [e1]
     exact BytesAt.mod hb M (fun k hk h => (far (i + 1) k (by omega) hk).2 h.symm)
 · intro i k hi hk
   rw [hl2] at hi
   by_cases e0 : i = 0
   · subst e0
     rw [updV_same] at hk
     have := far 0 k (by omega) (hfp k hk)
     simpa [Value.ownBlock] using this
   · have e1 : updV V 0 (sub_ (V 0) (e.b.length / 2) e.b.length 1) i = V i := by simp [updV, e0]
     rw [e1] at hk
     have := far i k (by omega) hk
     simpa [Value.ownBlock] using this
 · intro i hi
   rw [hl2] at hi
   by_cases e0 : i = 0
   · subst e0; rw [ent_cons_zero]; exact tearEnt_ok hok ht
   · obtain ⟨i, rfl⟩ : ∃ k, i = k + 1 := ⟨i - 1, by omega⟩
     have := hin.ok (i + 1) (by rw [hl]; omega)
     rwa [ent_cons_succ] at this ⊢
theorem qtear_nil (w : World) (p q : Value) (room : Nat) (S : Nat → Prop) (h : QueueAt w p room [] S) :
 Calls Tryz.prog 104 #[p, q] w fun e w' => e = .returned (.bool false) ∧ w = w' := by
 obtain ⟨pq, lv, V, rfl, hin, _⟩ := h.ex
 have c0 := hin.c1
 have l0 := hin.row.sl.run_len (P := Tryz.prog) IE.und 3
 simp only [List.length_nil, Int.natCast_zero] at l0
 clear hin h
 go_enter Tryz.func104, Tryz.ntmps104
 go_wp2
 go_ret
 exact ⟨rfl, rfl⟩
set_option maxRecDepth 100000 in
set_option maxHeartbeats 1600000 in
theorem qtear_cons (w : World) (p q : Value) (room : Nat) (e : Ent) (E : List Ent) (S : Nat → Prop) (h : QueueAt w p room (e :: E) S) (m : List Blk) (T : Nat → Prop) (hm : BlocksAt w q m T) (hd : ∀ k, S k → ¬ T k) :
 Calls Tryz.prog 104 #[p, q] w fun r w' => r = .returned (.bool (tearsE e)) ∧ ∃ S', QueueAt w' p room (qtear (e :: E)) S' ∧ BlocksAt w' q (qtearM (e :: E) m) T ∧ Mod (fun k => S k ∨ T k) w w' ∧ ∀ k, S' k → S k := by
 have H0 := Lib.hid (And.intro h hm)
 obtain ⟨pq, lv, V, rfl, hin, hS⟩ := h.ex
 obtain ⟨n, hn⟩ : ∃ n, E.length = n := ⟨_, rfl⟩
 have hl : (e :: E).length = n + 1 := by simp [hn]
 obtain ⟨g, cap, rfl, hc1, hc2⟩ := hin.row_some (by rw [hl]; omega)
 rw [hl] at hin hc1 hS
 obtain ⟨c1, c2, c3, c4, c5⟩ := hin.cells (i := 0) (by rw [hl]; omega)
 rw [ent_cons_zero] at c1 c2 c4 c5
 simp only [Nat.zero_mul, at_own, Nat.zero_add] at c1 c2 c3 c4 c5
 have hb := hin.bs 0 (by rw [hl]; omega)
 have hok := hin.ok 0 (by rw [hl]; omega)
 rw [ent_cons_zero] at hb hok
 have c0 := hin.c1
 have lb := Sl.run_len (P := Tryz.prog) hb IB.und 3
 have hcm : cap ≤ 9223372036854775807 := by simpa only [maxLen] using hc2
 have hby := hok.by_
 have hlb := hok.len
 have hat := hok.at_
 obtain ⟨V0, hV0⟩ : ∃ x, x = V 0 := ⟨_, rfl⟩
 rw [← hV0] at c3 lb
 have HV := Lib.hid hV0
 by_cases ht : tearsE e = true
 case neg =>
  have e1 : tearsE e = false := by simpa using ht
  have e2 : qtear (e :: E) = e :: E := by simp [qtear, e1]
  have e3 : qtearM (e :: E) m = m := by simp [qtearM, e1]
  rw [e1, e2, e3]
  clear e1 e2 e3 h hm hin hS hb hok hV0 hn
  by_cases htt : e.tears = true
  · have hlt : ¬ (2 ≤ e.b.length) := fun h => ht (by simp [tearsE, htt, h])
    have hlt' : (e.b.length : Int) < 2 := by omega
    rw [htt] at c5
    clear ht htt hl
    go_enter Tryz.func104, Tryz.ntmps104
    go_wp2
    go_ret
    exact ⟨rfl, S, H0.out.1, H0.out.2, Mod.refl _ _, fun _ h => h⟩
  · have htf : e.tears = false := by simpa using htt
    rw [htf] at c5
    clear ht htt htf hl
    go_enter Tryz.func104, Tryz.ntmps104
    go_wp2
    go_ret
    exact ⟨rfl, S, H0.out.1, H0.out.2, Mod.refl _ _, fun _ h => h⟩
 case pos =>
  have e2 : qtear (e :: E) = tearEnt e :: E := by simp [qtear, ht]
  have e3 : qtearM (e :: E) m = bwrite m e.blk e.at_ (e.b.take (e.b.length / 2)) e.by_ := by simp [qtearM, ht]
  rw [ht, e2, e3]
  have htt : e.tears = true := by simp [tearsE] at ht; exact ht.1
  have hlt : 2 ≤ e.b.length := by simp [tearsE] at ht; exact ht.2
  have hlt' : ¬ (e.b.length : Int) < 2 := by omega
  rw [htt] at c5
  have hq : ((e.b.length / 2 : Nat) : Int) = (e.b.length : Int) / 2 := by omega
  have s1 := Sl.run_sub_hi (P := Tryz.prog) hb IB.und IB.size .i64 (e.b.length / 2) (by omega)
  have s2 := Sl.run_sub_lo (P := Tryz.prog) hb IB.und IB.size .i64 (e.b.length / 2) (by omega)
  rw [hq, ← hV0] at s1 s2
  have hb1 := cut_bytes hb (a := 0) (n := e.b.length / 2) (by omega)
  rw [Nat.zero_add, show cut e.b 0 (e.b.length / 2) = e.b.take (e.b.length / 2) by simp [cut]] at hb1
  have lt1 : ((e.b.take (e.b.length / 2)).length) ≤ 8 := by simp; omega
  have hsum : IntKind.i64.wrap (e.at_ + (e.b.length : Int) / 2) = e.at_ + (e.b.length : Int) / 2 := IntWalk.i64_in _ (by omega)
  have hat' : e.at_ + (e.b.length : Int) / 2 = (tearEnt e).at_ := by simp only [tearEnt]; omega
  have key : ∀ w', Mod T w w' → (w'.cell? ⟨g, 0, none⟩ = some (.int .i64 e.blk) ∧ w'.cell? ⟨g, 1, none⟩ = some (.int .i64 e.at_) ∧ w'.cell? ⟨g, 2, none⟩ = some V0 ∧ w'.cell? ⟨g, 3, none⟩ = some (.int .i64 e.by_)) := fun w' M => by
   have hg : ¬ T g := hd g ((hS g).2 (.inr (.inl (by simp [Value.ownBlock]))))
   exact ⟨M.cell c1 hg, M.cell c2 hg, M.cell c3 hg, M.cell c4 hg⟩
  have KE := Lib.hid key
  have HQ := Lib.hid (And.intro hin (And.intro hS (And.intro hm (And.intro hd (And.intro hb1 (And.intro hn (And.intro hl (And.intro ht (And.intro hat' hb)))))))))
  clear e2 e3 htt h hin hS hm hd hb hn hl hok ht hV0 hq hb1 hat' key
  go_enter Tryz.func104, Tryz.ntmps104
  go_upto_region 5 with fail
  clear hsum
  go_region_held3 (fun w' => w'.cell? ⟨g, 0, none⟩ = some (.int .i64 e.blk) ∧ w'.cell? ⟨g, 1, none⟩ = some (.int .i64 e.at_) ∧ w'.cell? ⟨g, 2, none⟩ = some V0 ∧ w'.cell? ⟨g, 3, none⟩ = some (.int .i64 e.by_)) (first | exact KE.out _ M1 | exact KE.out _ (Mod.drew (Mod.refl _ _)))
   (first | (go_at_call 42; refine (write_any _ _ _ _ (HQ.out.2.2.1.ext (Mod.drew (Mod.refl _ _))) _ _ _ (e.b.take (e.b.length / 2)) (by rw [HV.out]; exact HQ.out.2.2.2.2.1.ext (Mod.drew (Mod.refl _ _))) (by omega) _ (show I64 e.by_ from ⟨by omega, by omega⟩)).mono ?_; rintro r w1 ⟨rfl, B1, m1⟩; have M1 : Mod T w w1 := (Mod.drew (Mod.refl _ _)).trans m1))
  have hin1 := HQ.out.1.mod M1 (fun k hk => HQ.out.2.2.2.1 k ((HQ.out.2.1 k).2 (by rw [← HQ.out.2.2.2.2.2.2.1]; exact hk)))
  obtain ⟨d1, d2, d3, d4, d5⟩ := hin1.cells (i := 0) (by rw [HQ.out.2.2.2.2.2.2.1]; omega)
  rw [ent_cons_zero] at d1 d2 d4 d5
  simp only [Nat.zero_mul, at_own, Nat.zero_add] at d1 d2 d3 d4 d5
  have hfz : ∀ j, w1.frozen? ⟨g, j, none⟩ = false := fun j => by
   have h := hin1.row.frozen j (by rw [HQ.out.2.2.2.2.2.2.1]; omega)
   rwa [at_own] at h
  have f1 := hfz 1
  have f2 := hfz 2
  have f4 := hfz 4
  have hsum : IntKind.i64.wrap (e.at_ + (e.b.length : Int) / 2) = e.at_ + (e.b.length : Int) / 2 := IntWalk.i64_in _ (by omega)
  obtain ⟨la, lc, hsub, _⟩ := (Sl.sub (sz := 1) HQ.out.2.2.2.2.2.2.2.2.2 (e.b.length / 2) e.b.length (by omega) (Nat.le_refl _)).shape
  rw [← HV.out] at hsub d3
  rw [hsub] at s2
  have H1 := Lib.hid (And.intro hin1 (And.intro B1 (And.intro M1 hsub)))
  clear hin1 B1 M1 hsub m1 d1 d4 hfz s1 lb
  go_wp2_with fail
  go_region
  go_wp2_with fail
  go_ret
  obtain ⟨hin1, B1, M1, hsub⟩ := H1.out
  obtain ⟨hin, hS, hm, hd, hb1, hn, hl, ht, hat', hb⟩ := HQ.out
  rw [← hsub, HV.out]
  simp only [hat']
  obtain ⟨P1, P2, P3⟩ := queue_tear hn ht hin1
  have hg : S g := (hS g).2 (.inr (.inl (by simp [Value.ownBlock])))
  refine ⟨rfl, QueueFp pq (.slice (some ⟨g, 0, none⟩) (n + 1) cap) (updV V 0 (sub_ (V 0) (e.b.length / 2) e.b.length 1)) (tearEnt e :: E).length, ⟨pq, _, _, rfl, P1.mod (Mod.drew (Mod.refl NoF _)) (fun _ _ h => h), fun q => Iff.rfl⟩, (B1.mod P2 (fun k hk h => ?_)).ext (Mod.drew (Mod.refl _ _)), ((M1.weak (fun k h => .inl (.inr h))).trans' P2 (fun k h => .inl (.inl (by rw [h]; exact hg)))).drew, fun k hk => ?_⟩
  · subst h; exact hd _ hg hk
  · rcases hk with rfl | hk | ⟨i, hi, hk⟩
    · exact (hS _).2 (.inl rfl)
    · exact (hS _).2 (.inr (.inl hk))
    · by_cases h0 : i = 0
      · subst h0
        rw [updV_same] at hk
        exact (hS _).2 (.inr (.inr ⟨0, by omega, P3 k hk⟩))
      · have e1 : updV V 0 (sub_ (V 0) (e.b.length / 2) e.b.length 1) i = V i := by simp [updV, h0]
        rw [e1] at hk
        exact (hS _).2 (.inr (.inr ⟨i, by simp [hn] at hi; omega, hk⟩))
theorem qtear_any (w : World) (p q : Value) (room : Nat) (E : List Ent) (S : Nat → Prop) (h : QueueAt w p room E S) (m : List Blk) (T : Nat → Prop) (hm : BlocksAt w q m T) (hd : ∀ k, S k → ¬ T k) :
 Calls Tryz.prog 104 #[p, q] w fun r w' => r = .returned (.bool (qtears E)) ∧ ∃ S', QueueAt w' p room (qtear E) S' ∧ BlocksAt w' q (qtearM E m) T ∧ Mod (fun k => S k ∨ T k) w w' ∧ ∀ k, S' k → S k := by
 cases E with
 | nil => exact (qtear_nil w p q room S h).mono fun r w' ⟨h1, h2⟩ => by subst h2; exact ⟨h1, S, h, hm, Mod.refl _ _, fun _ h => h⟩
 | cons e E => exact qtear_cons w p q room e E S h m T hm hd
end Go.Proofs.YtbhocahmhmafmaaGreat
namespace Go.Proofs.YtbhocahmhmafmaaGreat
open Go.Ren Go.RowKit
set_option linter.unusedVariables false
theorem queue_of_list {w w1 : World} {pq room : Nat} {lv v : Value} {V V' : Nat → Value} {E : List Ent} (hin : QueueIn w pq lv V room E) (x : Ext w w1) (li : ListIn w1 v V' E.length (fun i => ent E i)) (f1 : ∀ q, v.ownBlock = some q → w.heap.size ≤ q) (f2 : ∀ i q, i < E.length → (V' i).ownBlock = some q → w.heap.size ≤ q) :
 ∃ S', QueueAt (w1.alloc (.cells #[.int .i64 (room : Int), v] 136)) (.pointer (some ⟨w1.heap.size, 0, none⟩)) room E S' ∧ ∀ k, S' k → w.heap.size ≤ k := by
 have xa : Ext w1 (w1.alloc (.cells #[.int .i64 (room : Int), v] 136)) := (Mod.refl _ _).alloc _
 refine ⟨QueueFp w1.heap.size v V' E.length, ⟨_, v, V', rfl, ⟨heap_alloc_new _ _, li.row.ext xa, fun i hi => ((li.bs i hi).ext xa).sl, fun i k hi hk => ⟨?_, fun h => ?_⟩, hin.ok, hin.rng, hin.cnt⟩, fun k => Iff.rfl⟩, fun k hk => ?_⟩
 · have := (li.bs i hi).lt (fp_ob hk); omega
 · exact (li.bs i hi).apart li.row (by decide) (fp_ob hk) h
 · rcases hk with rfl | hk | ⟨i, hi, hk⟩
   · exact x.size
   · exact f1 k hk
   · exact f2 i k hi (fp_ob hk)
set_option maxRecDepth 100000 in
theorem qcopy_any (w : World) (p : Value) (room : Nat) (E : List Ent) (S : Nat → Prop) (h : QueueAt w p room E S) :
 Calls Tryz.prog 35 #[p] w fun r w' => ∃ g S', r = .returned (.pointer (some ⟨g, 0, none⟩)) ∧ QueueAt w' (.pointer (some ⟨g, 0, none⟩)) room E S' ∧ Ext w w' ∧ ∀ k, S' k → w.heap.size ≤ k := by
 have HQ := Lib.hid h
 obtain ⟨pq, lv, V0, rfl, hin, hS⟩ := h.ex
 have KF : Hid (∀ w', Ext w w' → w'.cell? ⟨pq, 0, none⟩ = some (.int .i64 (room : Int))) := Lib.hid fun w' x => Ext.cell x hin.c0
 have HIN := Lib.hid hin
 clear h hin hS
 go_enter Tryz.func35, Tryz.ntmps35
 go_upto_region 1 with fail
 refine wp_region_plan [(0, true), (1, true), (2, true), (3, true), (4, true), (5, false), (6, true), (7, false), (8, true)] (fun w' => w'.cell? ⟨pq, 0, none⟩ = some (.int .i64 (room : Int))) (by kernel_rfl) (by kernel_rfl) (by kernel_rfl) (fun _ d _ _ _ h => by cases d <;> exact h) (KF.out _ (Mod.drew (Mod.refl _ _))) ?_
 simp only [planL, getO]
 iterate 5 (refine plan_take (v := ?_) (by rfl) (fun wS hS => ?_) ?_; rotate_left; (focus ((try dsimp only at hS); go_simp; (try with_reducible rfl); done)); (try simp only [Act.put, List.setIfInBounds_toArray, List.set_cons_zero, List.set_cons_succ]))
 refine plan_call (fun K hK => ?_)
 go_simp
 go_at_call 91; refine (qlist_any _ _ room E S (HQ.out.ext (Mod.drew (Mod.refl _ _)))).mono ?_; rintro en w1 ⟨v, V, rfl, li, y1, f1, f2⟩; have U1 : Ext w w1 := Mod.trans (Mod.drew (Mod.refl _ _)) y1; (obtain ⟨la, lc, hv, _⟩ := li.row.sl.shape); subst hv
 refine hK.out _ _ (KF.out _ U1) ?_
 clear hK K
 (try simp only [Act.put, List.setIfInBounds_toArray, List.set_cons_zero, List.set_cons_succ])
 (refine plan_take (v := ?_) (by rfl) (fun wS hS => ?_) ?_; rotate_left; (focus ((try dsimp only at hS); go_simp; (try with_reducible rfl); done)); (try simp only [Act.put, List.setIfInBounds_toArray, List.set_cons_zero, List.set_cons_succ]))
 refine plan_call (fun K hK => ?_)
 go_simp
 skip
 refine hK.out _ _ (KF.out _ (U1.alloc _)) ?_
 clear hK K
 (try simp only [Act.put, List.setIfInBounds_toArray, List.set_cons_zero, List.set_cons_succ])
 (refine plan_take (v := ?_) (by rfl) (fun wS hS => ?_) ?_; rotate_left; (focus ((try dsimp only at hS); go_simp; (try with_reducible rfl); done)); (try simp only [Act.put, List.setIfInBounds_toArray, List.set_cons_zero, List.set_cons_succ]))
 refine plan_nil ?_
 have HL := Lib.hid (And.intro li (And.intro U1 (And.intro f1 (And.intro f2 y1))))
 clear li U1 f1 f2 y1
 go_wp2_with fail
 go_ret
 obtain ⟨li, U1, f1, f2, y1⟩ := HL.out
 obtain ⟨S', hq, hs⟩ := queue_of_list HIN.out U1 li (fun q hq => by have := f1 q hq; exact this) (fun i q hi hq => by have := f2 i q hi hq; exact this)
 exact ⟨_, S', rfl, hq, U1.alloc _, hs⟩
end Go.Proofs.YtbhocahmhmafmaaGreat
