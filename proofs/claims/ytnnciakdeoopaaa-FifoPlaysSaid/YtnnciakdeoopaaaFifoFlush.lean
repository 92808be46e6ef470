/-
  The contract of (*fifo.Queue).Flush. No condition.
-/
import Derived.Test.YtnnciakdeoopaaaFifoDelete
import Derived.Test.YtnnciakdeoopaaaFifoPlayLaw
import Derived.Test.YtnnciakdeoopaaaBlkWrite
namespace Go.Proofs.Ytnnciakdeoopaaa
open Go.Ren Go.RowKit
set_option linter.unusedVariables false

theorem ecell_one (e : Ent) (v : Value) (j : Nat) (hv : v.oneCell' = true) : (ecell e v j).oneCell' = true := by
  unfold ecell; split; rfl; split; rfl; split; exact hv; split; rfl; rfl
/-- The row of a buffer that is not empty. -/
theorem QueueIn.row_some {w : World} {pq : Nat} {lv : Value} {V : Nat → Value} {room : Nat} {E : List Ent} (h : QueueIn w pq lv V room E) (hn : 0 < E.length) : ∃ g cap, lv = .slice (some ⟨g, 0, none⟩) E.length cap ∧ E.length ≤ cap ∧ cap ≤ maxLen := by
  rcases h.row.2 with ⟨_, h2⟩ | ⟨g, cap, cur, rfl, _, hg, h1, h2, _⟩
  · omega
  · exact ⟨g, cap, rfl, h1, h2⟩

theorem qflush_nil (w : World) (p q : Value) (room : Nat) (S : Nat → Prop) (h : QueueAt w p room [] S) :
    Calls Try.prog 40 #[p, q] w fun e w' => e = .returned (.bool false) ∧ w = w' := by
  obtain ⟨pq, lv, V, rfl, hin, _⟩ := h.ex
  have c0 := hin.c1
  have l0 := hin.row.sl.run_len (P := Try.prog) IE.und 3
  simp only [List.length_nil, Int.natCast_zero] at l0
  clear hin h
  go_enter Try.func40, Try.ntmps40
  go_wp2
  go_ret
  exact ⟨rfl, rfl⟩

/-- The oldest entry is taken away. -/
theorem queue_pop {w w2 : World} {pq room g n cap : Nat} {V : Nat → Value} {e : Ent} {E : List Ent} (hn : E.length = n) (hin : QueueIn w pq (.slice (some ⟨g, 0, none⟩) (n + 1) cap) V room (e :: E)) (M2 : Mod (fun q => q = g) w w2)
    (o : Own w2 65 5 (.slice (some ⟨g, 0, none⟩) n cap) n ((flat 5 (n + 1) (fun i j => ecell (ent (e :: E) i) (V i) j)).drop 5)) :
    QueueIn (w2.setCell ⟨pq, 1, none⟩ (.slice (some ⟨g, 0, none⟩) n cap)) pq (.slice (some ⟨g, 0, none⟩) n cap) (fun i => V (i + 1)) room E := by
  have hl : (e :: E).length = n + 1 := by simp [hn]
  have R := hin.row
  rw [hl] at R
  have C0 := M2.blk hin.box (fun h => R.apart_obj hin.box (by decide) (by simp [Value.ownBlock, h]))
  have Ms : Mod (fun q => q = pq) w2 (w2.setCell ⟨pq, 1, none⟩ (.slice (some ⟨g, 0, none⟩) n cap)) := Mod.setCell (F := fun q => q = pq) (Mod.refl _ _) (.inl rfl) _
  have far : ∀ i k, i < n → fp (V (i + 1)) k → k ≠ pq ∧ g ≠ k := fun i k hi hk => by
    have := hin.far (i + 1) k (by rw [hl]; omega) hk
    simpa [Value.ownBlock] using this
  refine ⟨?_, ?_, ?_, ?_, ?_, hin.rng, by have := hin.cnt; rw [hl] at this; omega⟩
  · simp [World.setCell, Array.getElem?_modify, C0]
  · rw [hn]
    rw [flat_drop 5 n _ (by decide)] at o
    simp only [ent_cons_succ] at o
    exact o.mod Ms (fun k hk h => by subst h; exact o.apart_obj C0 (by decide) hk)
  · intro i hi
    rw [hn] at hi
    have hb := hin.bs (i + 1) (by rw [hl]; omega)
    rw [ent_cons_succ] at hb
    exact BytesAt.mod (BytesAt.mod hb M2 (fun k hk h => (far i k hi hk).2 h.symm)) Ms (fun k hk => (far i k hi hk).1)
  · intro i k hi hk
    rw [hn] at hi
    have := far i k hi hk
    simpa [Value.ownBlock] using this
  · intro i hi
    rw [hn] at hi
    have := hin.ok (i + 1) (by rw [hl]; omega)
    rwa [ent_cons_succ] at this

set_option maxRecDepth 100000 in
set_option maxHeartbeats 1600000 in
theorem qflush_cons (w : World) (p q : Value) (room : Nat) (e : Ent) (E : List Ent) (S : Nat → Prop) (h : QueueAt w p room (e :: E) S) (m : List Blk) (T : Nat → Prop) (hm : BlocksAt w q m T) (hd : ∀ k, S k → ¬ T k) :
    Calls Try.prog 40 #[p, q] w fun r w' => r = .returned (.bool true) ∧ ∃ S', QueueAt w' p room E S' ∧ BlocksAt w' q (qflushM (e :: E) m) T ∧ Mod (fun k => S k ∨ T k) w w' ∧ ∀ k, S' k → S k := by
  obtain ⟨pq, lv, V, rfl, hin, hS⟩ := h.ex
  obtain ⟨n, hn⟩ : ∃ n, E.length = n := ⟨_, rfl⟩
  have hl : (e :: E).length = n + 1 := by simp [hn]
  obtain ⟨g, cap, rfl, hc1, hc2⟩ := hin.row_some (by rw [hl]; omega)
  rw [hl] at hin hc1 hS
  obtain ⟨c1, c2, c3, c4, c5⟩ := hin.cells (i := 0) (by rw [hl]; omega)
  rw [ent_cons_zero] at c1 c2 c4 c5
  simp only [Nat.zero_mul, at_own, Nat.zero_add] at c1 c2 c3 c4 c5
  have hb := hin.bs 0 (by rw [hl]; omega)
  have hok := hin.ok 0 (by rw [hl]; omega)
  rw [ent_cons_zero] at hb hok
  have c0 := hin.c1
  have k1 := Sl.cells_eq hb
  have t1 := Sl.run_st (P := Try.prog) hb
  have hcm : cap ≤ 9223372036854775807 := by simpa only [maxLen] using hc2
  have hby := hok.by_
  have hlb := hok.len
  have HQ := Lib.hid (And.intro hin (And.intro hS (And.intro hm (And.intro hd (And.intro hb (And.intro hn (And.intro hl hok)))))))
  obtain ⟨V0, hV0⟩ : ∃ x, x = V 0 := ⟨_, rfl⟩
  rw [← hV0] at c3 k1 t1
  have HV := Lib.hid hV0
  clear h hin hS hm hd hb hn hl hok hV0
  go_enter Try.func40, Try.ntmps40
  go_wp2_with fail
  obtain ⟨w0, hw0⟩ : ∃ w0, w0 = w.alloc (.cells #[.int .i64 e.blk, .int .i64 e.at_, V0, .int .i64 e.by_, .bool e.tears] 65) := ⟨_, rfl⟩
  have x0 : Ext w w0 := by rw [hw0]; exact (Mod.refl _ _).alloc _
  rw [← hw0]
  clear hw0
  obtain ⟨hin, hS, hm, hd, hb, hn, hl, hok⟩ := HQ.out
  refine (write_any _ _ _ _ (hm.ext x0) _ _ _ e.b (by rw [HV.out]; exact hb.ext x0) (by omega) _ (show I64 e.by_ from ⟨by omega, by omega⟩)).mono ?_
  rintro r w1 ⟨rfl, B1, m1⟩
  have M1 : Mod T w w1 := (x0.mod T).trans m1
  have hin1 := hin.mod M1 (fun k hk => hd k ((hS k).2 (by rw [← hl]; exact hk)))
  have R1 := hin1.row
  rw [hl] at R1
  have d0 := hin1.c1
  have hpq : pq < w.heap.size := lt_of_block hin.box
  have HB := Lib.hid (And.intro B1 (And.intro M1 hin1))
  clear hin hS hm hd hb hn hl hok x0 m1 hin1 B1 M1 c0 c1 c2 c3 c4 c5 k1 t1
  go_wp2_with fail
  have hone : ∀ u ∈ flat 5 (n + 1) (fun i j => ecell (ent (e :: E) i) (V i) j), u.oneCell' = true := one_flat fun i j hi _ => ecell_one _ _ _ (Sl.one (HB.out.2.2.bs i (by rw [HQ.out.2.2.2.2.2.2.1]; exact hi)))
  refine (delete_any _ g n cap _ R1 hone hc1 hc2).mono ?_
  rintro r w2 ⟨rfl, o2, M2⟩
  have C2 := M2.blk HB.out.2.2.box (fun h => R1.apart_obj HB.out.2.2.box (by decide) (by simp [Value.ownBlock, h]))
  have p2 : w2.cell? ⟨pq, 1, none⟩ = some (.slice (some ⟨g, 0, none⟩) (n + 1) cap) := by simp [World.cell?, C2]
  have f2 : w2.frozen? ⟨pq, 1, none⟩ = false := by simp [World.frozen?, C2]
  have P := queue_pop HQ.out.2.2.2.2.2.1 HB.out.2.2 M2 o2
  have HP := Lib.hid (And.intro P M2)
  have HR := Lib.hid R1
  clear P M2 C2 o2 R1 hone d0
  go_wp2_with fail
  go_ret
  obtain ⟨P, M2⟩ := HP.out
  obtain ⟨B1, M1, hin1⟩ := HB.out
  obtain ⟨hin, hS, hm, hd, hb, hn, hl, hok⟩ := HQ.out
  have hg : S g := (hS g).2 (.inr (.inl (by simp [Value.ownBlock])))
  have hp : S pq := (hS pq).2 (.inl rfl)
  have M3 : Mod (fun q => q = g ∨ q = pq) w1 (w2.setCell ⟨pq, 1, none⟩ (.slice (some ⟨g, 0, none⟩) n cap)) := (M2.weak (fun k h => .inl (.inl h))).setCell (.inl (.inr rfl)) _
  refine ⟨rfl, QueueFp pq (.slice (some ⟨g, 0, none⟩) n cap) (fun i => V (i + 1)) E.length, ⟨pq, _, _, rfl, P, fun q => Iff.rfl⟩, B1.mod M3 (fun k hk h => ?_), (M1.weak (fun k h => .inl (.inr h))).trans' M3 (fun k h => .inl (.inl (h.elim (fun h => h ▸ hg) (fun h => h ▸ hp)))), fun k hk => ?_⟩
  · rcases h with rfl | rfl
    · exact hd _ hg hk
    · exact hd _ hp hk
  · rcases hk with rfl | hk | ⟨i, hi, hk⟩
    · exact hp
    · simp [Value.ownBlock] at hk; exact hk ▸ hg
    · exact (hS k).2 (.inr (.inr ⟨i + 1, by omega, hk⟩))

theorem qflush_any (w : World) (p q : Value) (room : Nat) (E : List Ent) (S : Nat → Prop) (h : QueueAt w p room E S) (m : List Blk) (T : Nat → Prop) (hm : BlocksAt w q m T) (hd : ∀ k, S k → ¬ T k) :
    Calls Try.prog 40 #[p, q] w fun r w' => r = .returned (.bool (!E.isEmpty)) ∧ ∃ S', QueueAt w' p room E.tail S' ∧ BlocksAt w' q (qflushM E m) T ∧ Mod (fun k => S k ∨ T k) w w' ∧ ∀ k, S' k → S k := by
  cases E with
  | nil => exact (qflush_nil w p q room S h).mono fun r w' ⟨h1, h2⟩ => by subst h2; exact ⟨h1, S, h, hm, Mod.refl _ _, fun _ h => h⟩
  | cons e E => exact qflush_cons w p q room e E S h m T hm hd
end Go.Proofs.Ytnnciakdeoopaaa
