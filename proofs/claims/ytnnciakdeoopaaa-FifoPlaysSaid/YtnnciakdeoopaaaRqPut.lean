/-
  The contract of (*renref18.Queue).Put. No condition.
-/
import Derived.Test.YtnnciakdeoopaaaRqAt
namespace Go.Proofs.Ytnnciakdeoopaaa
open Go.Ren Go.RowKit
set_option linter.unusedVariables false
set_option maxRecDepth 100000 in
set_option maxHeartbeats 1600000 in
theorem rput_any (w : World) (p : Value) (room : Nat) (E : List Ent) (S : Nat → Prop) (h : RqAt w p room E S) (e : Ent) (vb : Value) (hb : BytesAt w vb e.b) (hI : I64 e.blk ∧ I64 e.by_) :
    Calls Try.prog 63 #[p, .agg #[.int .i64 e.blk, .int .i64 e.at_, vb, .int .i64 e.by_, .bool e.tears]] w fun r w' => r = .returned (.int .i64 (qputE room E e)) ∧
      ∃ S', RqAt w' p room (qput room E e) S' ∧ Mod S w w' ∧ ∀ k, S' k → S k ∨ w.heap.size ≤ k := by
  have lb := Sl.run_len (P := Try.prog) hb IB.und 3
  have k1 := Sl.cells_eq hb
  have t1 := Sl.run_st (P := Try.prog) hb
  obtain ⟨bl, a, b, y, t⟩ := e
  simp only at hb lb k1 t1 hI ⊢
  have hA : ∀ (o : Obj), Mod S w (w.alloc o) := fun o => (Mod.refl _ _).alloc _
  have hq : qputE room E ⟨bl, a, b, y, t⟩ = 1 → qput room E ⟨bl, a, b, y, t⟩ = E := fun h => by unfold qput; rw [h]; rfl
  have hq2 : qputE room E ⟨bl, a, b, y, t⟩ = 11 → qput room E ⟨bl, a, b, y, t⟩ = E := fun h => by unfold qput; rw [h]; rfl
  have HQ := Lib.hid (And.intro hq hq2)
  clear hq hq2
  rcases (by omega : bl < 0 ∨ (0 ≤ bl ∧ a < 0) ∨ (0 ≤ bl ∧ 0 ≤ a ∧ y < 0) ∨ (0 ≤ bl ∧ 0 ≤ a ∧ 0 ≤ y ∧ 256 < a) ∨ (0 ≤ bl ∧ 0 ≤ a ∧ 0 ≤ y ∧ a ≤ 256 ∧ b.length < 1) ∨ (0 ≤ bl ∧ 0 ≤ a ∧ 0 ≤ y ∧ a ≤ 256 ∧ 1 ≤ b.length ∧ 8 < b.length) ∨ (0 ≤ bl ∧ 0 ≤ a ∧ 0 ≤ y ∧ a ≤ 256 ∧ 1 ≤ b.length ∧ b.length ≤ 8)) with
    z1 | ⟨z1, z2⟩ | ⟨z1, z2, z3⟩ | ⟨z1, z2, z3, z4⟩ | ⟨z1, z2, z3, z4, z5⟩ | ⟨z1, z2, z3, z4, z5, z6⟩ | ⟨z1, z2, z3, z4, z5, z6⟩
  case' inr.inr.inr.inr.inl => have z5' : (b.length : Int) < 1 := by omega
  case' inr.inr.inr.inr.inr.inl => have z5' : ¬ (b.length : Int) < 1 := by omega
  case' inr.inr.inr.inr.inr.inl => have z6' : (8 : Int) < (b.length : Int) := by omega
  case inr.inr.inr.inr.inr.inr =>
    have z5' : ¬ (b.length : Int) < 1 := by omega
    have z6' : ¬ (8 : Int) < (b.length : Int) := by omega
    obtain ⟨pq, lv, V, rfl, hin, hS⟩ := h.ex
    have HS := Lib.hid hS
    have HIN := Lib.hid hin
    have l0 := hin.row.sl.run_len (P := Try.prog) IRQ.und 3
    obtain ⟨w0, hw0⟩ : ∃ w0, w0 = w.alloc (.cells #[.int .i64 bl, .int .i64 a, vb, .int .i64 y, .bool t] 110) := ⟨_, rfl⟩
    have x0 : Ext w w0 := by rw [hw0]; exact (Mod.refl _ _).alloc _
    have h0 : w0.heap[w.heap.size]? = some (.cells #[.int .i64 bl, .int .i64 a, vb, .int .i64 y, .bool t] 110 (0, 0)) := by rw [hw0]; simp only [heap_alloc_if, if_true]
    obtain ⟨g, hg⟩ : ∃ g, g = w.heap.size := ⟨_, rfl⟩
    rw [← hg] at h0
    have key : ∀ w' : World, Ext w0 w' → (w'.cell? ⟨g, 0, none⟩ = some (.int .i64 bl) ∧ w'.cell? ⟨g, 1, none⟩ = some (.int .i64 a) ∧ w'.cell? ⟨g, 2, none⟩ = some vb ∧ w'.cell? ⟨g, 3, none⟩ = some (.int .i64 y) ∧ w'.cell? ⟨g, 4, none⟩ = some (.bool t)) := by
      intro w' x
      have := x.blk h0
      simp [World.cell?, this]
    have keq : ∀ w' : World, Ext w0 w' → (w'.cell? ⟨pq, 0, none⟩ = some (.int .i64 room) ∧ w'.cell? ⟨pq, 1, none⟩ = some lv) := fun w' x => ⟨Ext.cell (x0.trans x) hin.c0, Ext.cell (x0.trans x) hin.c1⟩
    obtain ⟨c0, c1, c2, c3, c4⟩ := key w0 (Mod.refl _ _)
    obtain ⟨q0, q1⟩ := keq w0 (Mod.refl _ _)
    have hbe : ∀ w' : World, Ext w0 w' → BytesAt w' vb b := fun w' x => BytesAt.ext hb (x0.trans x)
    have KEY := Lib.hid (And.intro key (And.intro keq (And.intro hbe (And.intro x0 h0))))
    have HG := Lib.hid hg
    have HW := Lib.hid hw0
    have hrm := hin.rng
    have hcn := hin.cnt
    clear key keq hbe hb hin hS h0 hA x0 hg hw0 h
    by_cases hr : room ≤ E.length
    · have hE : qputE room E ⟨bl, a, b, y, t⟩ = 11 := by unfold qputE; rw [if_neg (by simp only; omega), if_pos hr]
      rw [hE, HQ.out.2 hE]
      have hr' : (room : Int) ≤ (E.length : Int) := by omega
      go_enter Try.func63, Try.ntmps63
      go_upto_region 1 with fail
      rw [← HW.out, ← HG.out]
      go_wp2_with fail
      go_quiet (fail)
      go_wp2_with fail
      go_ret
      exact ⟨rfl, S, ⟨pq, lv, V, rfl, HIN.out.mod (KEY.out.2.2.2.1.drewN nq) (fun k _ h => h), HS.out⟩, Ext.mod (KEY.out.2.2.2.1.drewN nq) S, fun k hk => .inl hk⟩
    · have hE : qputE room E ⟨bl, a, b, y, t⟩ = 0 := by unfold qputE; rw [if_neg (by simp only; omega), if_neg hr]
      have hP : qput room E ⟨bl, a, b, y, t⟩ = E ++ [⟨bl, a, b, y, t⟩] := by unfold qput; rw [if_pos hE]
      rw [hE, hP]
      have hr' : ¬ (room : Int) ≤ (E.length : Int) := by omega
      go_enter Try.func63, Try.ntmps63
      go_upto_region 1 with fail
      rw [← HW.out, ← HG.out]
      go_wp2_with fail
      go_quiet (fail)
      go_wp2_with fail
      obtain ⟨wa, hwa⟩ : ∃ wa, wa = w0.drewN nq := ⟨_, rfl⟩
      have xa : Ext w0 wa := by rw [hwa]; exact (Mod.refl _ _).drewN nq
      have XA := Lib.hid xa
      refine (copy_bytes _ vb b (KEY.out.2.2.1 _ ((Mod.refl _ _).drewN nq)) (by omega)).mono ?_
      rintro en w2 ⟨v1, rfl, o1, y1, f1⟩
      rw [List.length_map] at o1
      rw [← hwa] at y1 f1
      clear hwa xa c0 c1 c2 c3 c4 q0 q1
      obtain ⟨la1, lc1, hv1, _⟩ := o1.sl.shape
      subst hv1
      have X2 : Ext w0 w2 := XA.out.trans y1
      obtain ⟨c0, c1, c2, c3, c4⟩ := KEY.out.1 w2 X2
      have hb2 := X2.blk KEY.out.2.2.2.2
      have f2 : w2.frozen? ⟨g, 2, none⟩ = false := by simp [World.frozen?, hb2]
      obtain ⟨w3, hw3⟩ : ∃ W, W = w2.setCell ⟨g, 2, none⟩ (.slice la1 b.length lc1) := ⟨_, rfl⟩
      have M3 : Mod (fun q => q = g) w2 w3 := by rw [hw3]; exact Mod.setCell (F := fun q => q = g) (Mod.refl _ _) (.inl rfl) _
      have hb3 : w3.heap[g]? = some (.cells #[.int .i64 bl, .int .i64 a, .slice la1 b.length lc1, .int .i64 y, .bool t] 110 (0, 0)) := by rw [hw3]; simp [World.setCell, Array.getElem?_modify, hb2]
      have x3 : Ext w w3 := (KEY.out.2.2.2.1.trans X2).trans' M3 (fun q hq => .inr (by rw [hq, HG.out]; exact Nat.le_refl _))
      have o3 : Own w3 5 1 (.slice la1 b.length lc1) b.length (b.map bv) := o1.mod M3 (fun k hk e => by have h1 := f1 k hk; have h2 := XA.out.size; have h3 := lt_of_block KEY.out.2.2.2.2; omega)
      have f3 : ∀ k, (Value.slice la1 b.length lc1).ownBlock = some k → w.heap.size ≤ k := fun k hk => by have h1 := f1 k hk; have h2 := XA.out.size; have h3 := KEY.out.2.2.2.1.size; omega
      have hin3 := HIN.out.mod x3 (fun k _ h => h)
      have KM : Hid (∀ w', Mod (fun q => lv.ownBlock = some q) w3 w' → (w'.cell? ⟨pq, 1, none⟩ = some lv ∧ w'.cell? ⟨g, 0, none⟩ = some (.int .i64 bl) ∧ w'.cell? ⟨g, 1, none⟩ = some (.int .i64 a) ∧ w'.cell? ⟨g, 2, none⟩ = some (.slice la1 b.length lc1) ∧ w'.cell? ⟨g, 3, none⟩ = some (.int .i64 y) ∧ w'.cell? ⟨g, 4, none⟩ = some (.bool t)) ∧ w'.frozen? ⟨pq, 1, none⟩ = false) := Lib.hid fun w' M => by
        have h5 := M.blk hin3.box (fun h => hin3.row.apart_obj hin3.box (by decide) h)
        have h6 := M.blk hb3 (fun h => by have h7 := HIN.out.row.lt h; have := HG.out; omega)
        exact ⟨by simp [World.cell?, h5, h6], by simp [World.frozen?, h5]⟩
      have HB := Lib.hid (And.intro x3 (And.intro hin3 (And.intro o3 f3)))
      have HW3 := Lib.hid hw3
      clear o1 y1 f1 X2 hb2 M3 hb3 x3 o3 f3 hin3 hw3
      go_upto_region 6 with fail
      rw [← HW3.out]
      clear c0 c1 c2 c3 c4 f2
      refine wp_region_planL [10] [(0, 3), (1, 0), (2, 0), (3, 0), (4, 0), (5, 0), (6, 1), (7, 1), (8, 3), (9, 3), (10, 2)] (fun w' => w'.cell? ⟨pq, 1, none⟩ = some lv ∧ w'.cell? ⟨g, 0, none⟩ = some (.int .i64 bl) ∧ w'.cell? ⟨g, 1, none⟩ = some (.int .i64 a) ∧ w'.cell? ⟨g, 2, none⟩ = some (.slice la1 b.length lc1) ∧ w'.cell? ⟨g, 3, none⟩ = some (.int .i64 y) ∧ w'.cell? ⟨g, 4, none⟩ = some (.bool t)) (by kernel_rfl) (by kernel_rfl) (by kernel_rfl) (fun _ d _ _ _ h => by cases d <;> exact h) ((KM.out _ (Ext.mod (Mod.drew (Mod.refl _ _)) _)).1) ?_
      obtain ⟨wd, hwd⟩ : ∃ x, x = w3.drew := ⟨_, rfl⟩
      have xd : Ext w3 wd := by rw [hwd]; exact (Mod.drew (Mod.refl _ _))
      rw [← hwd]
      clear hwd
      simp only [planLL, getO]
      (refine planL_pure (v := ?_) (by rfl) (fun wS => ?_) ?_; rotate_left; (focus (go_simp; (try with_reducible rfl); done)); (try simp only [Act.put, List.setIfInBounds_toArray, List.set_cons_zero, List.set_cons_succ]))
      (refine planL_take (v := ?_) (by rfl) (fun wS hS => ?_) ?_; rotate_left; (focus ((try dsimp only at hS); go_simp; (try with_reducible rfl); done)); (try simp only [Act.put, List.setIfInBounds_toArray, List.set_cons_zero, List.set_cons_succ]))
      (refine planL_take (v := ?_) (by rfl) (fun wS hS => ?_) ?_; rotate_left; (focus ((try dsimp only at hS); go_simp; (try with_reducible rfl); done)); (try simp only [Act.put, List.setIfInBounds_toArray, List.set_cons_zero, List.set_cons_succ]))
      (refine planL_take (v := ?_) (by rfl) (fun wS hS => ?_) ?_; rotate_left; (focus ((try dsimp only at hS); go_simp; (try with_reducible rfl); done)); (try simp only [Act.put, List.setIfInBounds_toArray, List.set_cons_zero, List.set_cons_succ]))
      (refine planL_take (v := ?_) (by rfl) (fun wS hS => ?_) ?_; rotate_left; (focus ((try dsimp only at hS); go_simp; (try with_reducible rfl); done)); (try simp only [Act.put, List.setIfInBounds_toArray, List.set_cons_zero, List.set_cons_succ]))
      (refine planL_take (v := ?_) (by rfl) (fun wS hS => ?_) ?_; rotate_left; (focus ((try dsimp only at hS); go_simp; (try with_reducible rfl); done)); (try simp only [Act.put, List.setIfInBounds_toArray, List.set_cons_zero, List.set_cons_succ]))
      refine planL_call (fun K hK => ?_)
      go_simp
      skip
      refine hK.out _ _ ((KM.out _ (Ext.mod (xd.alloc _) _)).1) ?_
      clear hK K
      (try simp only [Act.put, List.setIfInBounds_toArray, List.set_cons_zero, List.set_cons_succ])
      refine planL_call (fun K hK => ?_)
      refine step_app IRQ rfl (.tmp 53) (.tmp 55) rfl (HB.out.2.1.row.ext (xd.alloc _)) (built_sl (n := 1) (g := wd.heap.size) (e := 110) (cs := #[.int .i64 bl, .int .i64 a, .slice la1 b.length lc1, .int .i64 y, .bool t]) (by simp only [heap_alloc_if, if_true]; (try rfl)) rfl (by simp only [maxLen]; omega)) (one5 _ _ _ _ _ _ _) (by simp [Act.eval]) (by simp [Act.eval]; (try rfl)) (by omega) (by simp only [maxLen]; omega) ?_; intro hv9 w9 ol9 gr9 fr9 nn9; obtain ⟨la9, lc9, hlv9, _⟩ := ol9.sl.shape; subst hlv9; have MM : Mod (fun q => lv.ownBlock = some q) w3 w9 := Mod.grown ((Ext.mod xd _).alloc _) gr9 (fun q h => .inl h); obtain ⟨⟨e50, -⟩, ef5⟩ := KM.out w9 MM
      refine hK.out _ _ ((KM.out _ MM).1) ?_
      clear hK K
      (try simp only [Act.put, List.setIfInBounds_toArray, List.set_cons_zero, List.set_cons_succ])
      (refine planL_pure (v := ?_) (by rfl) (fun wS => ?_) ?_; rotate_left; (focus (go_simp; (try with_reducible rfl); done)); (try simp only [Act.put, List.setIfInBounds_toArray, List.set_cons_zero, List.set_cons_succ]))
      (refine planL_pure (v := ?_) (by rfl) (fun wS => ?_) ?_; rotate_left; (focus (go_simp; (try with_reducible rfl); done)); (try simp only [Act.put, List.setIfInBounds_toArray, List.set_cons_zero, List.set_cons_succ]))
      refine planL_late (fun K hK => ?_)
      go_simp
      refine hK.out _ _ ?_
      clear hK K
      (try simp only [Act.put, List.setIfInBounds_toArray, List.set_cons_zero, List.set_cons_succ])
      refine planL_nil ?_
      have F9 : ∀ q, (Value.slice la9 (E.length + 1) lc9).ownBlock = some q → lv.ownBlock = some q ∨ w3.heap.size ≤ q := fun q hq => (fr9 q hq).imp id (fun h => by simp only [World.size_alloc] at h; have h2 := xd.size; omega)
      have P := rq_push (e := ⟨bl, a, b, y, t⟩) HIN.out HB.out.1 MM ol9 F9 HB.out.2.2.1 HB.out.2.2.2 ⟨by have := hI.1; simp [I64] at this; simp only; omega, by simp only; omega, by have := hI.2; simp [I64] at this; simp only; omega, by simp only; omega⟩ (by omega)
      have HP := Lib.hid P
      clear P F9 MM ol9 gr9 fr9 nn9 e50 ef5
      go_wp2_with fail
      go_ret
      obtain ⟨P1, P2, P3⟩ := HP.out
      exact ⟨rfl, _, ⟨pq, _, _, rfl, P1, fun q => Iff.rfl⟩, P2.weak (fun q hq => .inl ((HS.out q).2 hq)), fun q hq => (P3 q hq).imp (HS.out q).2 id⟩
  all_goals
    have hE : qputE room E ⟨bl, a, b, y, t⟩ = 1 := by unfold qputE; rw [if_pos (by simp only; omega)]
    rw [hE, HQ.out.1 hE]
    go_enter Try.func63, Try.ntmps63
    go_wp2_with fail
    go_ret
    exact ⟨rfl, S, h.ext ((Mod.refl _ _).alloc _), hA _, fun k hk => .inl hk⟩
end Go.Proofs.Ytnnciakdeoopaaa
