/-
  The contract of (*renref18.Queue).Tear. No condition.
-/
import Derived.Test.YtnnciakdeoopaaaRqFlush
import Derived.Test.YtnnciakdeoopaaaFifoTear
namespace Go.Proofs.Ytnnciakdeoopaaa
open Go.Ren Go.RowKit
set_option linter.unusedVariables false
/-- The oldest entry's second half is copied. -/
theorem rq_tear {w w8 : World} {pq room g n cap : Nat} {V : Nat → Value} {e : Ent} {E : List Ent} {vb : Value} (hn : E.length = n) (ht : tearsE e = true) (hin : RqIn w pq (.slice (some ⟨g, 0, none⟩) (n + 1) cap) V room (e :: E)) (x : Ext w w8)
    (ob : Own w8 5 1 vb (tearEnt e).b.length ((tearEnt e).b.map bv)) (nb : ∀ k, vb.ownBlock = some k → w.heap.size ≤ k) :
    RqIn (((((w8.setCell ⟨g, 0, none⟩ (.int .i64 e.blk)).setCell ⟨g, 1, none⟩ (.int .i64 (tearEnt e).at_)).setCell ⟨g, 2, none⟩ vb).setCell ⟨g, 3, none⟩ (.int .i64 e.by_)).setCell ⟨g, 4, none⟩ (.bool false)) pq (.slice (some ⟨g, 0, none⟩) (n + 1) cap) (updV V 0 vb) room (tearEnt e :: E) ∧
      Mod (fun q => q = g) w8 (((((w8.setCell ⟨g, 0, none⟩ (.int .i64 e.blk)).setCell ⟨g, 1, none⟩ (.int .i64 (tearEnt e).at_)).setCell ⟨g, 2, none⟩ vb).setCell ⟨g, 3, none⟩ (.int .i64 e.by_)).setCell ⟨g, 4, none⟩ (.bool false)) ∧
      ∀ k, fp vb k → w.heap.size ≤ k := by
  have hl : (e :: E).length = n + 1 := by simp [hn]
  have hl2 : (tearEnt e :: E).length = n + 1 := by simp [hn]
  have R := hin.row
  rw [hl] at R
  have hgl := R.lt (k := g) (by simp [Value.ownBlock])
  have R8 := R.ext x
  have M : Mod (fun q => q = g) w8 (((((w8.setCell ⟨g, 0, none⟩ (.int .i64 e.blk)).setCell ⟨g, 1, none⟩ (.int .i64 (tearEnt e).at_)).setCell ⟨g, 2, none⟩ vb).setCell ⟨g, 3, none⟩ (.int .i64 e.by_)).setCell ⟨g, 4, none⟩ (.bool false)) :=
    Mod.setCell (F := fun q => q = g) (Mod.setCell (F := fun q => q = g) (Mod.setCell (F := fun q => q = g) (Mod.setCell (F := fun q => q = g) (Mod.setCell (F := fun q => q = g) (Mod.refl _ _) (.inl rfl) _) (.inl rfl) _) (.inl rfl) _) (.inl rfl) _) (.inl rfl) _
  have hok := hin.ok 0 (by rw [hl]; omega)
  rw [ent_cons_zero] at hok
  have hnb : ∀ k, fp vb k → w.heap.size ≤ k := fun k hk => nb k (fp_ob hk)
  have far : ∀ i k, i < n + 1 → fp (V i) k → k ≠ pq ∧ g ≠ k := fun i k hi hk => by
    have := hin.far i k (by rw [hl]; omega) hk
    simpa [Value.ownBlock] using this
  have B8 := x.blk hin.box
  refine ⟨⟨?_, ?_, ?_, ?_, ?_, hin.rng, by have := hin.cnt; rw [hl] at this; rw [hl2]; omega⟩, M, hnb⟩
  · exact M.blk B8 (fun h => R8.apart_obj B8 (by decide) (by simp [Value.ownBlock, h]))
  · rw [hl2]
    have s0 := R8.set (by omega) (0 * 5 + 0) (.int .i64 e.blk)
    have s1 := s0.set (by omega) (0 * 5 + 1) (.int .i64 (tearEnt e).at_)
    have s2 := s1.set (by omega) (0 * 5 + 2) vb
    have s3 := s2.set (by omega) (0 * 5 + 3) (.int .i64 e.by_)
    have s4 := s3.set (by omega) (0 * 5 + 4) (.bool false)
    rw [flat_set _ (by decide), flat_set _ (by decide), flat_set _ (by decide), flat_set _ (by decide), flat_set _ (by decide)] at s4
    simp only [at_own, Nat.zero_mul, Nat.zero_add] at s4
    refine cast ?_ s4
    congr 1
    refine flat_congr fun i j hi hj => ?_
    by_cases e0 : i = 0
    · subst e0
      rw [ent_cons_zero, updV_same]
      match j, hj with
      | 0, _ => rfl
      | 1, _ => rfl
      | 2, _ => rfl
      | 3, _ => rfl
      | 4, _ => rfl
    · obtain ⟨i, rfl⟩ : ∃ k, i = k + 1 := ⟨i - 1, by omega⟩
      simp [ent_cons_succ, updV]
  · intro i hi
    rw [hl2] at hi
    by_cases e0 : i = 0
    · subst e0
      rw [ent_cons_zero, updV_same]
      exact BytesAt.mod ob.sl M (fun k hk h => by have := hnb k hk; omega)
    · obtain ⟨i, rfl⟩ : ∃ k, i = k + 1 := ⟨i - 1, by omega⟩
      have hb := hin.bs (i + 1) (by rw [hl]; omega)
      rw [ent_cons_succ] at hb ⊢
      have e1 : updV V 0 vb (i + 1) = V (i + 1) := by simp [updV]
      rw [e1]
      exact BytesAt.mod (BytesAt.ext hb x) M (fun k hk h => (far (i + 1) k (by omega) hk).2 h.symm)
  · intro i k hi hk
    rw [hl2] at hi
    by_cases e0 : i = 0
    · subst e0
      rw [updV_same] at hk
      have := hnb k hk
      have hpq := lt_of_block hin.box
      refine ⟨by omega, fun h => ?_⟩
      simp [Value.ownBlock] at h
      omega
    · have e1 : updV V 0 vb i = V i := by simp [updV, e0]
      rw [e1] at hk
      have := far i k (by omega) hk
      simpa [Value.ownBlock] using this
  · intro i hi
    rw [hl2] at hi
    by_cases e0 : i = 0
    · subst e0; rw [ent_cons_zero]; exact tearEnt_ok hok ht
    · obtain ⟨i, rfl⟩ : ∃ k, i = k + 1 := ⟨i - 1, by omega⟩
      have := hin.ok (i + 1) (by rw [hl]; omega)
      rwa [ent_cons_succ] at this ⊢
theorem rtear_nil (w : World) (p q : Value) (room : Nat) (S : Nat → Prop) (h : RqAt w p room [] S) :
    Calls Try.prog 67 #[p, q] w fun e w' => e = .returned (.bool false) ∧ w = w' := by
  obtain ⟨pq, lv, V, rfl, hin, _⟩ := h.ex
  have c0 := hin.c1
  have l0 := hin.row.sl.run_len (P := Try.prog) IRQ.und 3
  simp only [List.length_nil, Int.natCast_zero] at l0
  clear hin h
  go_enter Try.func67, Try.ntmps67
  go_wp2
  go_ret
  exact ⟨rfl, rfl⟩
set_option maxRecDepth 100000 in
set_option maxHeartbeats 1600000 in
theorem rtear_cons (w : World) (p q : Value) (room : Nat) (e : Ent) (E : List Ent) (S : Nat → Prop) (h : RqAt w p room (e :: E) S) (m : List Blk) (T : Nat → Prop) (hm : RefAt w q m T) (hd : ∀ k, S k → ¬ T k) :
    Calls Try.prog 67 #[p, q] w fun r w' => r = .returned (.bool (tearsE e)) ∧ ∃ S', RqAt w' p room (qtear (e :: E)) S' ∧ RefAt w' q (qtearM (e :: E) m) T ∧ Mod (fun k => S k ∨ T k) w w' ∧ ∀ k, S' k → S k ∨ w.heap.size ≤ k := by
  have H0 := Lib.hid (And.intro h hm)
  obtain ⟨pq, lv, V, rfl, hin, hS⟩ := h.ex
  obtain ⟨n, hn⟩ : ∃ n, E.length = n := ⟨_, rfl⟩
  have hl : (e :: E).length = n + 1 := by simp [hn]
  obtain ⟨g, cap, rfl, hc1, hc2⟩ := hin.row_some (by rw [hl]; omega)
  rw [hl] at hin hc1 hS
  obtain ⟨c1, c2, c3, c4, c5⟩ := hin.cells (i := 0) (by rw [hl]; omega)
  rw [ent_cons_zero] at c1 c2 c4 c5
  simp only [Nat.zero_mul, at_own, Nat.zero_add] at c1 c2 c3 c4 c5
  have hb := hin.bs 0 (by rw [hl]; omega)
  have hok := hin.ok 0 (by rw [hl]; omega)
  rw [ent_cons_zero] at hb hok
  have c0 := hin.c1
  have l0 := hin.row.sl.run_len (P := Try.prog) IRQ.und 3
  rw [hl] at l0
  have i0 := hin.row.sl.run_idx (P := Try.prog) IRQ.und IRQ.size .i64 0 (by rw [hl]; omega)
  simp only [Nat.zero_mul, at_own] at i0
  have hne : (((n + 1 : Nat) : Int) == 0) = false := by simp; omega
  have lb := Sl.run_len (P := Try.prog) hb IB.und 3
  have k1 := Sl.cells_eq hb
  have t1 := Sl.run_st (P := Try.prog) hb
  have hcm : cap ≤ 9223372036854775807 := by simpa only [maxLen] using hc2
  have hby := hok.by_
  have hlb := hok.len
  have hat := hok.at_
  obtain ⟨V0, hV0⟩ : ∃ x, x = V 0 := ⟨_, rfl⟩
  rw [← hV0] at c3 lb k1 t1
  have HV := Lib.hid hV0
  by_cases ht : tearsE e = true
  case neg =>
    have e1 : tearsE e = false := by simpa using ht
    have e2 : qtear (e :: E) = e :: E := by simp [qtear, e1]
    have e3 : qtearM (e :: E) m = m := by simp [qtearM, e1]
    rw [e1, e2, e3]
    clear e1 e2 e3 h hm hin hS hb hok hV0 hn
    by_cases htt : e.tears = true
    · have hlt : ¬ (2 ≤ e.b.length) := fun h => ht (by simp [tearsE, htt, h])
      have hlt' : (e.b.length : Int) < 2 := by omega
      rw [htt] at c5
      clear ht htt hl
      go_enter Try.func67, Try.ntmps67
      go_wp2
      go_ret
      exact ⟨rfl, S, H0.out.1, H0.out.2, Mod.refl _ _, fun _ h => .inl h⟩
    · have htf : e.tears = false := by simpa using htt
      rw [htf] at c5
      clear ht htt htf hl
      go_enter Try.func67, Try.ntmps67
      go_wp2
      go_ret
      exact ⟨rfl, S, H0.out.1, H0.out.2, Mod.refl _ _, fun _ h => .inl h⟩
  case pos =>
    have e2 : qtear (e :: E) = tearEnt e :: E := by simp [qtear, ht]
    have e3 : qtearM (e :: E) m = bwrite m e.blk e.at_ (e.b.take (e.b.length / 2)) e.by_ := by simp [qtearM, ht]
    rw [ht, e2, e3]
    have htt : e.tears = true := by simp [tearsE] at ht; exact ht.1
    have hlt : 2 ≤ e.b.length := by simp [tearsE] at ht; exact ht.2
    have hlt' : ¬ (e.b.length : Int) < 2 := by omega
    rw [htt] at c5
    have hq : ((e.b.length / 2 : Nat) : Int) = (e.b.length : Int) / 2 := by omega
    have s1 := Sl.run_sub_hi (P := Try.prog) hb IB.und IB.size .i64 (e.b.length / 2) (by omega)
    have s2 := Sl.run_sub_lo (P := Try.prog) hb IB.und IB.size .i64 (e.b.length / 2) (by omega)
    rw [hq, ← hV0] at s1 s2
    have hb1 := cut_bytes hb (a := 0) (n := e.b.length / 2) (by omega)
    rw [Nat.zero_add, show cut e.b 0 (e.b.length / 2) = e.b.take (e.b.length / 2) by simp [cut], ← hV0] at hb1
    have hb2 := cut_bytes hb (a := e.b.length / 2) (n := e.b.length - e.b.length / 2) (by omega)
    rw [show e.b.length / 2 + (e.b.length - e.b.length / 2) = e.b.length by omega, show cut e.b (e.b.length / 2) (e.b.length - e.b.length / 2) = (tearEnt e).b by simp only [cut, tearEnt]; exact List.take_of_length_le (by simp), ← hV0] at hb2
    have lt1 : ((e.b.take (e.b.length / 2)).length) ≤ 8 := by simp; omega
    have HTL : Hid ((tearEnt e).b.length ≤ 8) := Lib.hid (by simp only [tearEnt, List.length_drop]; omega)
    have hsum : IntKind.i64.wrap (e.at_ + (e.b.length : Int) / 2) = e.at_ + (e.b.length : Int) / 2 := IntWalk.i64_in _ (by omega)
    have hat' : e.at_ + (e.b.length : Int) / 2 = (tearEnt e).at_ := by simp only [tearEnt]; omega
    have hfp1 : ∀ k, fp (sub_ V0 0 (e.b.length / 2) 1) k → ¬ T k := fun k hk => by
      have h1 : fp V0 k := fp_sub (by rw [hV0, Sl.slen_eq hb]; omega) hk
      rw [hV0] at h1
      exact hd k ((hS k).2 (.inr (.inr ⟨0, by omega, h1⟩)))
    have hfp2 : ∀ k, fp (sub_ V0 (e.b.length / 2) e.b.length 1) k → ¬ T k := fun k hk => by
      have h1 : fp V0 k := fp_sub (by rw [hV0, Sl.slen_eq hb]; exact Nat.le_refl _) hk
      rw [hV0] at h1
      exact hd k ((hS k).2 (.inr (.inr ⟨0, by omega, h1⟩)))
    obtain ⟨w0, hw0⟩ : ∃ w0, w0 = w.alloc (.cells #[.int .i64 e.blk, .int .i64 e.at_, V0, .int .i64 e.by_, .bool true] 110) := ⟨_, rfl⟩
    obtain ⟨g5, hg5⟩ : ∃ g, g = w.heap.size := ⟨_, rfl⟩
    have x0 : Ext w w0 := by rw [hw0]; exact (Mod.refl _ _).alloc _
    have h5 : w0.heap[g5]? = some (.cells #[.int .i64 e.blk, .int .i64 e.at_, V0, .int .i64 e.by_, .bool true] 110 (0, 0)) := by rw [hw0, hg5]; exact heap_alloc_new _ _
    have hT5 : ¬ T g5 := fun h => by have := hm.lt h; omega
    have KF : Hid (∀ w', Mod T w0 w' → w'.cell? ⟨g5, 0, none⟩ = some (.int .i64 e.blk) ∧ w'.cell? ⟨g5, 1, none⟩ = some (.int .i64 e.at_) ∧ w'.cell? ⟨g5, 2, none⟩ = some V0 ∧ w'.cell? ⟨g5, 3, none⟩ = some (.int .i64 e.by_)) := Lib.hid fun w' M => by
      have := M.blk h5 hT5
      simp [World.cell?, this]
    have d0 : w0.cell? ⟨g5, 0, none⟩ = some (.int .i64 e.blk) := by simp [World.cell?, h5]
    have d2 : w0.cell? ⟨g5, 2, none⟩ = some V0 := by simp [World.cell?, h5]
    have HQ := Lib.hid (And.intro hin (And.intro hS (And.intro (hm.ext x0) (And.intro hd (And.intro (hb1.ext x0) (And.intro hfp1 (And.intro hn (And.intro hl (And.intro ht (And.intro hat' (And.intro (hb2.ext x0) (And.intro hfp2 x0))))))))))))
    have HW0 := Lib.hid (And.intro hw0 (And.intro hg5 h5))
    clear e2 e3 htt h hin hS hm hd hb hn hl hok ht hV0 hq hb1 hb2 hat' hfp1 hfp2 hw0 hg5 x0 h5 hT5
    go_enter Try.func67, Try.ntmps67
    go_upto_region 4 with fail
    rw [← HW0.out.1, ← HW0.out.2.1]
    clear c0 c1 c2 c3 c4 c5 k1 t1
    go_upto_region 5 with fail
    clear d0 d2
    refine wp_region_plan [(0, true), (1, true), (2, true), (3, true), (4, true), (5, true), (6, true), (7, true), (8, true), (9, true), (10, true), (11, false)] (fun w' => w'.cell? ⟨g5, 0, none⟩ = some (.int .i64 e.blk) ∧ w'.cell? ⟨g5, 1, none⟩ = some (.int .i64 e.at_) ∧ w'.cell? ⟨g5, 2, none⟩ = some V0 ∧ w'.cell? ⟨g5, 3, none⟩ = some (.int .i64 e.by_)) (by kernel_rfl) (by kernel_rfl) (by kernel_rfl) (fun _ d _ _ _ h => by cases d <;> exact h) (KF.out _ (Mod.drew (Mod.refl _ _))) ?_
    simp only [planL, getO]
    iterate 11 (refine plan_take (v := ?_) (by rfl) (fun wS hS => ?_) ?_; rotate_left; (focus ((try dsimp only at hS); go_simp; (try with_reducible rfl); done)); (try simp only [Act.put, List.setIfInBounds_toArray, List.set_cons_zero, List.set_cons_succ]))
    refine plan_call (fun K hK => ?_)
    go_simp
    go_at_call 28; refine (rwrite_any _ _ _ _ (HQ.out.2.2.1.ext (Mod.drew (Mod.refl _ _))) _ _ _ (e.b.take (e.b.length / 2)) (HQ.out.2.2.2.2.1.ext (Mod.drew (Mod.refl _ _))) HQ.out.2.2.2.2.2.1 (by omega) _ (show I64 e.by_ from ⟨by omega, by omega⟩)).mono ?_; rintro r w1 ⟨rfl, B1, m1⟩; have M1 : Mod T w0 w1 := Mod.trans (Mod.drew (Mod.refl _ _)) m1
    refine hK.out _ _ (KF.out _ M1) ?_
    clear hK K
    (try simp only [Act.put, List.setIfInBounds_toArray, List.set_cons_zero, List.set_cons_succ])
    refine plan_nil ?_
    have M1 := M1
    have hinw0 := HQ.out.1.mod HQ.out.2.2.2.2.2.2.2.2.2.2.2.2 (fun k _ h => h)
    have hin1 := hinw0.mod M1 (fun k hk => HQ.out.2.2.2.1 k ((HQ.out.2.1 k).2 (by rw [← HQ.out.2.2.2.2.2.2.2.1]; exact hk)))
    have hc1' := hin1.c1
    have h51 := M1.blk HW0.out.2.2 (fun h => by have := (H0.out.2).lt h; have := HW0.out.2.1; omega)
    obtain ⟨r1, r2, r3, r4, r5⟩ := hin1.cells (i := 0) (by rw [HQ.out.2.2.2.2.2.2.2.1]; omega)
    rw [ent_cons_zero] at r1 r2 r4 r5
    simp only [Nat.zero_mul, at_own, Nat.zero_add] at r1 r2 r3 r4 r5
    have KQ : Hid (∀ w', Ext w1 w' → w'.cell? ⟨pq, 1, none⟩ = some (.slice (some ⟨g, 0, none⟩) (n + 1) cap) ∧ w'.cell? ⟨g5, 0, none⟩ = some (.int .i64 e.blk) ∧ w'.cell? ⟨g5, 1, none⟩ = some (.int .i64 e.at_) ∧ w'.cell? ⟨g5, 2, none⟩ = some V0 ∧ w'.cell? ⟨g5, 3, none⟩ = some (.int .i64 e.by_)) := Lib.hid fun w' x => by
      have h6 := x.blk h51
      exact ⟨Ext.cell x hc1', by simp [World.cell?, h6]⟩
    have KR : Hid (∀ w', Ext w1 w' → (w'.cell? ⟨g, 0, none⟩ = some (.int .i64 e.blk) ∧ w'.cell? ⟨g, 1, none⟩ = some (.int .i64 e.at_) ∧ w'.cell? ⟨g, 2, none⟩ = some (V 0) ∧ w'.cell? ⟨g, 3, none⟩ = some (.int .i64 e.by_) ∧ w'.cell? ⟨g, 4, none⟩ = some (.bool e.tears)) ∧ (w'.frozen? ⟨g, 0, none⟩ = false ∧ w'.frozen? ⟨g, 1, none⟩ = false ∧ w'.frozen? ⟨g, 2, none⟩ = false ∧ w'.frozen? ⟨g, 3, none⟩ = false ∧ w'.frozen? ⟨g, 4, none⟩ = false)) := Lib.hid fun w' x => by
      have hf : ∀ j, w'.frozen? ⟨g, j, none⟩ = false := fun j => by
        have h := (hin1.row.ext x).frozen j (by rw [HQ.out.2.2.2.2.2.2.2.1]; omega)
        rwa [at_own] at h
      exact ⟨⟨Ext.cell x r1, Ext.cell x r2, Ext.cell x r3, Ext.cell x r4, Ext.cell x r5⟩, hf 0, hf 1, hf 2, hf 3, hf 4⟩
    have hb21 := BytesAt.mod HQ.out.2.2.2.2.2.2.2.2.2.2.1 M1 HQ.out.2.2.2.2.2.2.2.2.2.2.2.1
    have H1 := Lib.hid (And.intro hin1 (And.intro B1 (And.intro M1 hb21)))
    clear hinw0 hin1 hc1' h51 r1 r2 r3 r4 r5 hb21 B1 M1 m1 s1 lb
    go_upto_region 6 with fail
    refine wp_region_planL [19] [(0, 0), (1, 0), (2, 0), (3, 0), (4, 0), (5, 0), (6, 0), (7, 0), (8, 0), (9, 0), (10, 0), (11, 0), (12, 0), (13, 0), (15, 0), (16, 0), (14, 1), (17, 0), (18, 0), (19, 2)] (fun w' => w'.cell? ⟨pq, 1, none⟩ = some (.slice (some ⟨g, 0, none⟩) (n + 1) cap) ∧ w'.cell? ⟨g5, 0, none⟩ = some (.int .i64 e.blk) ∧ w'.cell? ⟨g5, 1, none⟩ = some (.int .i64 e.at_) ∧ w'.cell? ⟨g5, 2, none⟩ = some V0 ∧ w'.cell? ⟨g5, 3, none⟩ = some (.int .i64 e.by_)) (by kernel_rfl) (by kernel_rfl) (by kernel_rfl) (fun _ d _ _ _ h => by cases d <;> exact h) (KQ.out _ (Mod.drew (Mod.refl _ _))) ?_
    simp only [planLL, getO]
    (refine planL_take (v := ?_) (by rfl) (fun wS hS => ?_) ?_; rotate_left; (focus ((try dsimp only at hS); go_simp; (try with_reducible rfl); done)); (try simp only [Act.put, List.setIfInBounds_toArray, List.set_cons_zero, List.set_cons_succ]))
    (refine planL_take (v := ?_) (by rfl) (fun wS hS => ?_) ?_; rotate_left; (focus ((try dsimp only at hS); go_simp; (try with_reducible rfl); done)); (try simp only [Act.put, List.setIfInBounds_toArray, List.set_cons_zero, List.set_cons_succ]))
    (refine planL_take (v := ?_) (by rfl) (fun wS hS => ?_) ?_; rotate_left; (focus ((try dsimp only at hS); go_simp; (try with_reducible rfl); done)); (try simp only [Act.put, List.setIfInBounds_toArray, List.set_cons_zero, List.set_cons_succ]))
    (refine planL_take (v := ?_) (by rfl) (fun wS hS => ?_) ?_; rotate_left; (focus ((try dsimp only at hS); go_simp; (try with_reducible rfl); done)); (try simp only [Act.put, List.setIfInBounds_toArray, List.set_cons_zero, List.set_cons_succ]))
    (refine planL_take (v := ?_) (by rfl) (fun wS hS => ?_) ?_; rotate_left; (focus ((try dsimp only at hS); go_simp; (try with_reducible rfl); done)); (try simp only [Act.put, List.setIfInBounds_toArray, List.set_cons_zero, List.set_cons_succ]))
    (refine planL_take (v := ?_) (by rfl) (fun wS hS => ?_) ?_; rotate_left; (focus ((try dsimp only at hS); go_simp; (try with_reducible rfl); done)); (try simp only [Act.put, List.setIfInBounds_toArray, List.set_cons_zero, List.set_cons_succ]))
    (refine planL_take (v := ?_) (by rfl) (fun wS hS => ?_) ?_; rotate_left; (focus ((try dsimp only at hS); go_simp; (try with_reducible rfl); done)); (try simp only [Act.put, List.setIfInBounds_toArray, List.set_cons_zero, List.set_cons_succ]))
    (refine planL_take (v := ?_) (by rfl) (fun wS hS => ?_) ?_; rotate_left; (focus ((try dsimp only at hS); go_simp; (try with_reducible rfl); done)); (try simp only [Act.put, List.setIfInBounds_toArray, List.set_cons_zero, List.set_cons_succ]))
    (refine planL_take (v := ?_) (by rfl) (fun wS hS => ?_) ?_; rotate_left; (focus ((try dsimp only at hS); go_simp; (try with_reducible rfl); done)); (try simp only [Act.put, List.setIfInBounds_toArray, List.set_cons_zero, List.set_cons_succ]))
    (refine planL_take (v := ?_) (by rfl) (fun wS hS => ?_) ?_; rotate_left; (focus ((try dsimp only at hS); go_simp; (try with_reducible rfl); done)); (try simp only [Act.put, List.setIfInBounds_toArray, List.set_cons_zero, List.set_cons_succ]))
    (refine planL_take (v := ?_) (by rfl) (fun wS hS => ?_) ?_; rotate_left; (focus ((try dsimp only at hS); go_simp; (try with_reducible rfl); done)); (try simp only [Act.put, List.setIfInBounds_toArray, List.set_cons_zero, List.set_cons_succ]))
    (refine planL_take (v := ?_) (by rfl) (fun wS hS => ?_) ?_; rotate_left; (focus ((try dsimp only at hS); go_simp; (try with_reducible rfl); done)); (try simp only [Act.put, List.setIfInBounds_toArray, List.set_cons_zero, List.set_cons_succ]))
    (refine planL_take (v := ?_) (by rfl) (fun wS hS => ?_) ?_; rotate_left; (focus ((try dsimp only at hS); go_simp; (try with_reducible rfl); done)); (try simp only [Act.put, List.setIfInBounds_toArray, List.set_cons_zero, List.set_cons_succ]))
    (refine planL_take (v := ?_) (by rfl) (fun wS hS => ?_) ?_; rotate_left; (focus ((try dsimp only at hS); go_simp; (try with_reducible rfl); done)); (try simp only [Act.put, List.setIfInBounds_toArray, List.set_cons_zero, List.set_cons_succ]))
    (refine planL_take (v := ?_) (by rfl) (fun wS hS => ?_) ?_; rotate_left; (focus ((try dsimp only at hS); go_simp; (try with_reducible rfl); done)); (try simp only [Act.put, List.setIfInBounds_toArray, List.set_cons_zero, List.set_cons_succ]))
    (refine planL_take (v := ?_) (by rfl) (fun wS hS => ?_) ?_; rotate_left; (focus ((try dsimp only at hS); go_simp; (try with_reducible rfl); done)); (try simp only [Act.put, List.setIfInBounds_toArray, List.set_cons_zero, List.set_cons_succ]))
    refine planL_call (fun K hK => ?_)
    go_simp
    go_at_call 51; refine (copy_bytes _ _ (tearEnt e).b (H1.out.2.2.2.ext (Mod.drew (Mod.refl _ _))) (by have := HTL.out; omega)).mono ?_; rintro en w2 ⟨v1, rfl, o1, y1, f1⟩; rw [List.length_map] at o1; (obtain ⟨la1, lc1, hv1, _⟩ := o1.sl.shape); subst hv1; have U2 : Ext w1 w2 := Mod.trans (Mod.drew (Mod.refl _ _)) y1; (obtain ⟨⟨a0, a1, a2, a3, a4⟩, ⟨b0, b1, b2, b3, b4⟩⟩ := KR.out _ U2)
    refine hK.out _ _ (KQ.out _ U2) ?_
    clear hK K
    (try simp only [Act.put, List.setIfInBounds_toArray, List.set_cons_zero, List.set_cons_succ])
    (refine planL_take (v := ?_) (by rfl) (fun wS hS => ?_) ?_; rotate_left; (focus ((try dsimp only at hS); go_simp; (try with_reducible rfl); done)); (try simp only [Act.put, List.setIfInBounds_toArray, List.set_cons_zero, List.set_cons_succ]))
    (refine planL_take (v := ?_) (by rfl) (fun wS hS => ?_) ?_; rotate_left; (focus ((try dsimp only at hS); go_simp; (try with_reducible rfl); done)); (try simp only [Act.put, List.setIfInBounds_toArray, List.set_cons_zero, List.set_cons_succ]))
    refine planL_late (fun K hK => ?_)
    go_simp
    refine hK.out _ _ ?_
    clear hK K
    (try simp only [Act.put, List.setIfInBounds_toArray, List.set_cons_zero, List.set_cons_succ])
    refine planL_nil ?_
    have HO := Lib.hid (And.intro o1 (And.intro f1 U2))
    clear o1 f1 U2 y1 a0 a1 a2 a3 a4 b0 b1 b2 b3 b4
    go_wp2_with fail
    go_ret
    obtain ⟨hin, hS, hm, hd, hb1, hfp1, hn, hl, ht, hat', hb2, hfp2, x0⟩ := HQ.out
    obtain ⟨hin1, B1, M1, hb21⟩ := H1.out
    obtain ⟨o1, f1, U2⟩ := HO.out
    simp only [hat']
    obtain ⟨P1, P2, P3⟩ := rq_tear hn ht hin1 U2 o1 (fun k hk => by have := f1 k hk; exact this)
    have hg : S g := (hS g).2 (.inr (.inl (by simp [Value.ownBlock])))
    refine ⟨rfl, _, ⟨pq, _, _, rfl, P1, fun q => Iff.rfl⟩, ((B1.ext U2).mod P2 (fun k hk h => hd g hg (h ▸ hk))), ((x0.mod _).trans' M1 (fun k h => .inl (.inr h))).trans' (U2.mod (fun q => q = g) |>.trans P2) (fun k h => .inl (.inl (h ▸ hg))), fun k hk => ?_⟩
    rcases hk with rfl | hk | ⟨i, hi, hk⟩
    · exact .inl ((hS _).2 (.inl rfl))
    · exact .inl ((hS _).2 (.inr (.inl hk)))
    · by_cases h0 : i = 0
      · subst h0
        rw [updV_same] at hk
        have h1 := P3 k hk
        have h2 := M1.size
        have h3 := x0.size
        exact .inr (by omega)
      · have e1 : updV V 0 (Value.slice la1 (tearEnt e).b.length lc1) i = V i := by simp [updV, h0]
        rw [e1] at hk
        exact .inl ((hS _).2 (.inr (.inr ⟨i, by simp [hn] at hi; omega, hk⟩)))
theorem rtear_any (w : World) (p q : Value) (room : Nat) (E : List Ent) (S : Nat → Prop) (h : RqAt w p room E S) (m : List Blk) (T : Nat → Prop) (hm : RefAt w q m T) (hd : ∀ k, S k → ¬ T k) :
    Calls Try.prog 67 #[p, q] w fun r w' => r = .returned (.bool (qtears E)) ∧ ∃ S', RqAt w' p room (qtear E) S' ∧ RefAt w' q (qtearM E m) T ∧ Mod (fun k => S k ∨ T k) w w' ∧ ∀ k, S' k → S k ∨ w.heap.size ≤ k := by
  cases E with
  | nil => exact (rtear_nil w p q room S h).mono fun r w' ⟨h1, h2⟩ => by subst h2; exact ⟨h1, S, h, hm, Mod.refl _ _, fun _ h => .inl h⟩
  | cons e E => exact rtear_cons w p q room e E S h m T hm hd
end Go.Proofs.Ytnnciakdeoopaaa
