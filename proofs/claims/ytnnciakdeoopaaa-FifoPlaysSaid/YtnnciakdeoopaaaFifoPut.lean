/-
  The contract of (*fifo.Queue).Put. No condition.
-/
import Derived.Test.YtnnciakdeoopaaaFifoAt
import Derived.Deep.RegionLaw
import Derived.BigQuiet
import Derived.Deep.DeepCutAuto
namespace Go.Proofs.Ytnnciakdeoopaaa
open Go.Ren Go.RowKit
set_option linter.unusedVariables false

def updV (f : Nat → Value) (n : Nat) (v : Value) : Nat → Value := fun i => if i = n then v else f i
theorem updV_same (f : Nat → Value) (n : Nat) (v : Value) : updV f n v n = v := by simp [updV]
theorem updV_lt {f : Nat → Value} {n i : Nat} {v : Value} (h : i < n) : updV f n v i = f i := by simp [updV, show i ≠ n by omega]

theorem one5 (i1 i2 : Int) (a : Option Addr) (n c : Nat) (i3 : Int) (t : Bool) : ∀ x ∈ [Value.int .i64 i1, .int .i64 i2, .slice a n c, .int .i64 i3, .bool t], x.oneCell' = true := by
  intro x hx; simp at hx; rcases hx with rfl | rfl | rfl | rfl | rfl <;> rfl
/-- One entry more. -/
theorem queue_push {w wr w2 : World} {pq room : Nat} {lv lv' vb : Value} {V : Nat → Value} {E : List Ent} {e : Ent} (hin : QueueIn w pq lv V room E) (x : Ext w wr) (M2 : Mod (fun q => lv.ownBlock = some q) wr w2)
    (ol : Own w2 65 5 lv' (E.length + 1) (flat 5 E.length (fun i j => ecell (ent E i) (V i) j) ++ [.int .i64 e.blk, .int .i64 e.at_, vb, .int .i64 e.by_, .bool e.tears]))
    (fr : ∀ k, lv'.ownBlock = some k → lv.ownBlock = some k ∨ wr.heap.size ≤ k) (ob : Own wr 5 1 vb e.b.length (e.b.map bv)) (nb : ∀ k, vb.ownBlock = some k → w.heap.size ≤ k) (hok : EOk e) (hc : E.length < room) :
    QueueIn (w2.setCell ⟨pq, 1, none⟩ lv') pq lv' (updV V E.length vb) room (E ++ [e]) ∧ Mod (QueueFp pq lv V E.length) w (w2.setCell ⟨pq, 1, none⟩ lv') ∧
      ∀ k, QueueFp pq lv' (updV V E.length vb) (E ++ [e]).length k → QueueFp pq lv V E.length k ∨ w.heap.size ≤ k := by
  have R0 := hin.row.ext x
  have B0 := x.blk hin.box
  have C0 := M2.blk B0 (fun h => R0.apart_obj B0 (by decide) h)
  have hlen : (E ++ [e]).length = E.length + 1 := by simp
  have Ms : Mod (fun q => q = pq) w2 (w2.setCell ⟨pq, 1, none⟩ lv') := Mod.setCell (F := fun q => q = pq) (Mod.refl _ _) (.inl rfl) _
  have hpq : pq < w.heap.size := lt_of_block hin.box
  have MT : Mod (QueueFp pq lv V E.length) w (w2.setCell ⟨pq, 1, none⟩ lv') := ((x.mod (QueueFp pq lv V E.length)).trans' M2 (fun i hi => .inl (.inr (.inl hi)))).trans' Ms (fun i hi => .inl (.inl hi))
  have vown : ∀ k, fp vb k → vb.ownBlock = some k := fun k hk => by
    obtain ⟨la, lc, rfl, _⟩ := ob.sl.shape
    rcases ob.2 with ⟨h, _⟩ | ⟨g, cap, cur, h, _⟩
    · rw [h] at hk; exact hk.elim
    · rw [h] at hk ⊢; simp [Value.ownBlock]; exact hk.2
  refine ⟨⟨?_, ?_, ?_, ?_, ?_, hin.rng, by rw [hlen]; omega⟩, MT, ?_⟩
  · simp [World.setCell, Array.getElem?_modify, C0]
  · rw [hlen]
    have e1 : flat 5 (E.length + 1) (fun i j => ecell (ent (E ++ [e]) i) (updV V E.length vb i) j) = flat 5 E.length (fun i j => ecell (ent E i) (V i) j) ++ [.int .i64 e.blk, .int .i64 e.at_, vb, .int .i64 e.by_, .bool e.tears] := by
      rw [flat_succ _ _ _ (by decide)]
      congr 1
      · exact flat_congr fun i j hi _ => by rw [ent_snoc_lt hi, updV_lt hi]
      · simp [List.range, List.range.loop, ecell, ent_snoc, updV_same]
    rw [e1]
    exact ol.mod Ms (fun k hk h => by subst h; exact ol.apart_obj C0 (by decide) hk)
  · intro i hi
    rw [hlen] at hi
    by_cases h : i = E.length
    · subst h
      rw [ent_snoc, updV_same]
      have h2 := ob.mod M2 (fun k hk h => ob.apart R0 (by decide) hk h)
      exact (h2.mod Ms (fun k hk h => by subst h; exact h2.apart_obj C0 (by decide) hk)).sl
    · have hi' : i < E.length := by omega
      rw [ent_snoc_lt hi', updV_lt hi']
      have hb := hin.bs i hi'
      have hf := hin.far i
      refine BytesAt.mod (BytesAt.mod (BytesAt.ext hb x) M2 (fun k hk => (hf k hi' hk).2)) Ms (fun k hk => (hf k hi' hk).1)
  · intro i k hi hk
    rw [hlen] at hi
    by_cases h : i = E.length
    · subst h
      rw [updV_same] at hk
      have hv := vown k hk
      have := nb k hv
      refine ⟨by omega, fun h => ?_⟩
      have h2 := ob.mod M2 (fun k hk h => ob.apart R0 (by decide) hk h)
      exact h2.apart ol (by decide) hv h
    · have hi' : i < E.length := by omega
      rw [updV_lt hi'] at hk
      refine ⟨(hin.far i k hi' hk).1, fun h => ?_⟩
      have := Sl.lt (hin.bs i hi') (by decide) hk
      rcases fr k h with h | h
      · exact (hin.far i k hi' hk).2 h
      · have := x.size; omega
  · intro i hi
    rw [hlen] at hi
    by_cases h : i = E.length
    · subst h; rw [ent_snoc]; exact hok
    · have hi' : i < E.length := by omega
      rw [ent_snoc_lt hi']; exact hin.ok i hi'
  · intro k hk
    rcases hk with rfl | hk | ⟨i, hi, hk⟩
    · exact .inl (.inl rfl)
    · exact (fr k hk).imp (fun h => .inr (.inl h)) (fun h => Nat.le_trans x.size h)
    · rw [hlen] at hi
      by_cases h : i = E.length
      · subst h; rw [updV_same] at hk; exact .inr (nb k (vown k hk))
      · have hi' : i < E.length := by omega
        rw [updV_lt hi'] at hk; exact .inl (.inr (.inr ⟨i, hi', hk⟩))

set_option maxRecDepth 100000 in
set_option maxHeartbeats 1600000 in
theorem qput_any (w : World) (p : Value) (room : Nat) (E : List Ent) (S : Nat → Prop) (h : QueueAt w p room E S) (e : Ent) (vb : Value) (hb : BytesAt w vb e.b) (hI : I64 e.blk ∧ I64 e.by_) :
    Calls Try.prog 38 #[p, .agg #[.int .i64 e.blk, .int .i64 e.at_, vb, .int .i64 e.by_, .bool e.tears]] w fun r w' => r = .returned (.int .i64 (qputE room E e)) ∧
      ∃ S', QueueAt w' p room (qput room E e) S' ∧ Mod S w w' ∧ ∀ k, S' k → S k ∨ w.heap.size ≤ k := by
  have lb := Sl.run_len (P := Try.prog) hb IB.und 3
  have k1 := Sl.cells_eq hb
  have t1 := Sl.run_st (P := Try.prog) hb
  obtain ⟨bl, a, b, y, t⟩ := e
  simp only at hb lb k1 t1 hI ⊢
  have hA : ∀ (o : Obj), Mod S w (w.alloc o) := fun o => (Mod.refl _ _).alloc _
  have hq : qputE room E ⟨bl, a, b, y, t⟩ = 1 → qput room E ⟨bl, a, b, y, t⟩ = E := fun h => by unfold qput; rw [h]; rfl
  have hq2 : qputE room E ⟨bl, a, b, y, t⟩ = 11 → qput room E ⟨bl, a, b, y, t⟩ = E := fun h => by unfold qput; rw [h]; rfl
  have HQ := Lib.hid (And.intro hq hq2)
  clear hq hq2
  rcases (by omega : bl < 0 ∨ (0 ≤ bl ∧ a < 0) ∨ (0 ≤ bl ∧ 0 ≤ a ∧ y < 0) ∨ (0 ≤ bl ∧ 0 ≤ a ∧ 0 ≤ y ∧ 256 < a) ∨ (0 ≤ bl ∧ 0 ≤ a ∧ 0 ≤ y ∧ a ≤ 256 ∧ b.length < 1) ∨ (0 ≤ bl ∧ 0 ≤ a ∧ 0 ≤ y ∧ a ≤ 256 ∧ 1 ≤ b.length ∧ 8 < b.length) ∨ (0 ≤ bl ∧ 0 ≤ a ∧ 0 ≤ y ∧ a ≤ 256 ∧ 1 ≤ b.length ∧ b.length ≤ 8)) with
    z1 | ⟨z1, z2⟩ | ⟨z1, z2, z3⟩ | ⟨z1, z2, z3, z4⟩ | ⟨z1, z2, z3, z4, z5⟩ | ⟨z1, z2, z3, z4, z5, z6⟩ | ⟨z1, z2, z3, z4, z5, z6⟩
  case' inr.inr.inr.inr.inl => have z5' : (b.length : Int) < 1 := by omega
  case' inr.inr.inr.inr.inr.inl => have z5' : ¬ (b.length : Int) < 1 := by omega
  case' inr.inr.inr.inr.inr.inl => have z6' : (8 : Int) < (b.length : Int) := by omega
  case inr.inr.inr.inr.inr.inr =>
    have z5' : ¬ (b.length : Int) < 1 := by omega
    have z6' : ¬ (8 : Int) < (b.length : Int) := by omega
    obtain ⟨pq, lv, V, rfl, hin, hS⟩ := h.ex
    have HS := Lib.hid hS
    have HIN := Lib.hid hin
    have l0 := hin.row.sl.run_len (P := Try.prog) IE.und 3
    obtain ⟨w0, hw0⟩ : ∃ w0, w0 = w.alloc (.cells #[.int .i64 bl, .int .i64 a, vb, .int .i64 y, .bool t] 65) := ⟨_, rfl⟩
    have x0 : Ext w w0 := by rw [hw0]; exact (Mod.refl _ _).alloc _
    have h0 : w0.heap[w.heap.size]? = some (.cells #[.int .i64 bl, .int .i64 a, vb, .int .i64 y, .bool t] 65 (0, 0)) := by rw [hw0]; simp only [heap_alloc_if, if_true]
    obtain ⟨g, hg⟩ : ∃ g, g = w.heap.size := ⟨_, rfl⟩
    rw [← hg] at h0
    have key : ∀ w' : World, Ext w0 w' → (w'.cell? ⟨g, 0, none⟩ = some (.int .i64 bl) ∧ w'.cell? ⟨g, 1, none⟩ = some (.int .i64 a) ∧ w'.cell? ⟨g, 2, none⟩ = some vb ∧ w'.cell? ⟨g, 3, none⟩ = some (.int .i64 y) ∧ w'.cell? ⟨g, 4, none⟩ = some (.bool t)) := by
      intro w' x
      have := x.blk h0
      simp [World.cell?, this]
    have keq : ∀ w' : World, Ext w0 w' → (w'.cell? ⟨pq, 0, none⟩ = some (.int .i64 room) ∧ w'.cell? ⟨pq, 1, none⟩ = some lv) := fun w' x => ⟨Ext.cell (x0.trans x) hin.c0, Ext.cell (x0.trans x) hin.c1⟩
    obtain ⟨c0, c1, c2, c3, c4⟩ := key w0 (Mod.refl _ _)
    obtain ⟨q0, q1⟩ := keq w0 (Mod.refl _ _)
    have hbe : ∀ w' : World, Ext w0 w' → BytesAt w' vb b := fun w' x => BytesAt.ext hb (x0.trans x)
    have KEY := Lib.hid (And.intro key (And.intro keq (And.intro hbe x0)))
    have HG := Lib.hid hg
    have HW := Lib.hid hw0
    have hrm := hin.rng
    clear key keq hbe hb hin hS h0 hA x0 hg hw0 h
    by_cases hr : room ≤ E.length
    · have hE : qputE room E ⟨bl, a, b, y, t⟩ = 11 := by unfold qputE; rw [if_neg (by simp only; omega), if_pos hr]
      rw [hE, HQ.out.2 hE]
      have hr' : (room : Int) ≤ (E.length : Int) := by omega
      go_enter Try.func38, Try.ntmps38
      go_upto_region 1 with fail
      rw [← HW.out, ← HG.out]
      go_wp2_with fail
      go_quiet (fail)
      go_wp2_with fail
      go_ret
      exact ⟨rfl, S, ⟨pq, lv, V, rfl, HIN.out.mod (KEY.out.2.2.2.drewN nq) (fun k _ h => h), HS.out⟩, Ext.mod (KEY.out.2.2.2.drewN nq) S, fun k hk => .inl hk⟩
    · have hE : qputE room E ⟨bl, a, b, y, t⟩ = 0 := by unfold qputE; rw [if_neg (by simp only; omega), if_neg hr]
      have hP : qput room E ⟨bl, a, b, y, t⟩ = E ++ [⟨bl, a, b, y, t⟩] := by unfold qput; rw [if_pos hE]
      rw [hE, hP]
      have hr' : ¬ (room : Int) ≤ (E.length : Int) := by omega
      go_enter Try.func38, Try.ntmps38
      go_upto_region 1 with fail
      rw [← HW.out, ← HG.out]
      go_wp2_with fail
      go_quiet (fail)
      go_wp2_with fail
      obtain ⟨wa, hwa⟩ : ∃ wa, wa = w0.drewN nq := ⟨_, rfl⟩
      have xa : Ext w0 wa := by rw [hwa]; exact (Mod.refl _ _).drewN nq
      rw [← hwa]
      clear hwa c0 c1 c2 c3 c4 q0 q1
      obtain ⟨c0, c1, c2, c3, c4⟩ := KEY.out.1 wa xa
      obtain ⟨q0, q1⟩ := KEY.out.2.1 wa xa
      have XA := Lib.hid xa
      clear xa
      go_region_law (first | (refine step_app IE rfl (.tmp 51) (.tmp 54) rfl (HIN.out.row.ext ?_) (built_sl (n := 1) (g := w1.heap.size) (e := 65) (cs := #[.int .i64 bl, .int .i64 a, .slice la1 b.length lc1, .int .i64 y, .bool t]) ?_ rfl (by simp only [maxLen]; omega)) (one5 _ _ _ _ _ _ _) ?_ ?_ (by omega) (by simp only [maxLen]; omega) ?_; (repeat (first | exact (KEY.out.2.2.2.trans XA.out).trans E1 | apply Mod.drew | apply Mod.alloc)); (simp only [heap_alloc_if, if_true]); (simp [Act.eval]); (simp [Act.eval]); intro lv' w2 ol2 gr2 fr2 nn2; obtain ⟨la, lc, hlv, _⟩ := ol2.sl.shape; subst hlv; have M2 : Mod (fun q => lv.ownBlock = some q) w1 w2 := Mod.grown (by repeat (first | exact Mod.refl _ _ | apply Mod.drew | apply Mod.alloc)) gr2 (fun q h => .inl h); have B2 := M2.blk (Ext.blk ((KEY.out.2.2.2.trans XA.out).trans E1) HIN.out.box) (fun e => HIN.out.row.apart_obj HIN.out.box (by decide) e); have r2 : w2.cell? ⟨pq, 1, none⟩ = some lv := (by simp [World.cell?, B2]); have f2 : w2.frozen? ⟨pq, 1, none⟩ = false := (by simp [World.frozen?, B2])) | (go_simp; go_at_call 61; refine (qcopied_any _ bl a y t vb b (KEY.out.2.2.1 _ (Mod.trans XA.out (by repeat (first | exact Mod.refl _ _ | apply Mod.drew)))) (by omega)).mono ?_; rintro r w1 ⟨la1, lc1, rfl, o1, y1, f1⟩; have E1 : Ext wa w1 := Mod.trans (by repeat (first | exact Mod.refl _ _ | apply Mod.drew)) y1; have p1 : w1.cell? ⟨pq, 1, none⟩ = some lv := (KEY.out.2.1 w1 (XA.out.trans E1)).2; have p2 : (w1.alloc (.cells #[.int .i64 bl, .int .i64 a, .slice la1 b.length lc1, .int .i64 y, .bool t] 65)).cell? ⟨pq, 1, none⟩ = some lv := Ext.cell ((Mod.refl _ _).alloc _) p1))
      all_goals
        have F2 : ∀ q, (Value.slice la (E.length + 1) lc).ownBlock = some q → lv.ownBlock = some q ∨ w1.heap.size ≤ q := fun q hq => (fr2 q hq).imp id (fun h => by simp only [World.size_alloc] at h; omega)
        have XW : Ext w w1 := (KEY.out.2.2.2.trans XA.out).trans E1
        have P := queue_push (e := ⟨bl, a, b, y, t⟩) HIN.out XW M2 ol2 F2 o1 (fun q hq => Nat.le_trans (KEY.out.2.2.2.trans XA.out).size (f1 q hq)) ⟨by have := hI.1; simp [I64] at this; simp only; omega, by simp only; omega, by have := hI.2; simp [I64] at this; simp only; omega, by simp only; omega⟩ (by omega)
        have HP := Lib.hid P
        clear P F2 XW M2 ol2 gr2 fr2 B2 o1 y1 f1 E1
        go_wp2_with fail
        go_ret
        obtain ⟨P1, P2, P3⟩ := HP.out
        exact ⟨rfl, _, ⟨pq, _, _, rfl, P1, fun q => Iff.rfl⟩, P2.weak (fun q hq => .inl ((HS.out q).2 hq)), fun q hq => (P3 q hq).imp (HS.out q).2 id⟩
  all_goals
    have hE : qputE room E ⟨bl, a, b, y, t⟩ = 1 := by unfold qputE; rw [if_pos (by simp only; omega)]
    rw [hE, HQ.out.1 hE]
    go_enter Try.func38, Try.ntmps38
    go_wp2_with fail
    go_ret
    exact ⟨rfl, S, h.ext ((Mod.refl _ _).alloc _), hA _, fun k hk => .inl hk⟩
end Go.Proofs.Ytnnciakdeoopaaa
