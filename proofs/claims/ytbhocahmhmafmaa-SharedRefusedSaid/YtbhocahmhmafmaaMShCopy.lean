/-
  The contract of (*shared.Shared).Copy. No condition.
-/
import Derived.Test.YtbhocahmhmafmaaMShLog
import Derived.Test.YtbhocahmhmafmaaMFifoCopy
namespace Go.Proofs.Ytbhocahmhmafmaa
open Go.Ren Go.RowKit
set_option linter.unusedVariables false
theorem shlog_at {g : Nat} {w : World} {z : ShV} {s : Shm} (h : ShIn w z s) (hg : g = z.g) : Calls Try.prog 20 #[ptr g] w (LogPost s.L w) := by subst hg; exact shlog_any w z s h
/-- How many pointers to buffers there are. -/
def nQ (s : Shm) : Nat := if s.room = 0 then 0 else s.n
theorem ShIn.qsl {w : World} {z : ShV} {s : Shm} (h : ShIn w z s) : ∃ xs, Sl w z.qv 1 (nQ s) xs ∧ ∀ i, i < nQ s → w.cell? (at_ z.qv i) = some (z.qs i) := by
  unfold nQ
  rcases Nat.eq_zero_or_pos s.room with h0 | h0
  · rw [if_pos h0, h.noq h0]
    exact ⟨[], (Own.nil w 68 1).sl, fun i hi => absurd hi (Nat.not_lt_zero _)⟩
  · rw [if_neg (by omega)]
    exact ⟨_, (h.qrow h0).sl, fun i hi => h.qcell h0 hi⟩
theorem nQ_pos {s : Shm} {i : Nat} (h : i < nQ s) : 0 < s.room ∧ i < s.n := by unfold nQ at h; split at h <;> omega
set_option maxRecDepth 100000 in
set_option maxHeartbeats 1600000 in
theorem shcopy_any (w : World) (z : ShV) (s : Shm) (h : ShIn w z s) : Calls Try.prog 42 #[ptr z.g] w fun e w' => ∃ z', e = .returned (ptr z'.g) ∧ ShIn w' z' s ∧ Ext w w' ∧ ∀ k, z'.Fp s k → w.heap.size ≤ k := by
  obtain ⟨c0, c1, c2, _, _⟩ := h.cells
  obtain ⟨xs, hsl, hqc⟩ := h.qsl
  have l2 := hsl.run_len (P := Try.prog) IQS.und 3
  have HI := Lib.hid (hsl.run_idx (P := Try.prog) IQS.und IQS.size .i64)
  obtain ⟨g, hg⟩ : ∃ g, g = z.g := ⟨_, rfl⟩
  obtain ⟨m, hm⟩ : ∃ g, g = z.m := ⟨_, rfl⟩
  obtain ⟨qz, hqz⟩ : ∃ g, g = z.qv := ⟨_, rfl⟩
  obtain ⟨N, hN⟩ : ∃ n, n = nQ s := ⟨_, rfl⟩
  rw [← hg] at c0 c1 c2 ⊢
  rw [← hm] at c1
  rw [← hqz] at c2 l2 HI
  rw [← hN] at l2 HI
  have HB : Hid (∀ w', Ext w w' → BlocksAt w' m s.M z.U) := Lib.hid fun w' x => by rw [hm]; exact h.blks.ext x
  have KF : Hid (∀ w', Ext w w' → w'.cell? ⟨g, 0, none⟩ = some (.int .i64 (s.n : Int)) ∧ w'.cell? ⟨g, 1, none⟩ = some m) := Lib.hid fun w' x => ⟨Ext.cell x c0, Ext.cell x c1⟩
  have KQ : Hid (∀ w', Ext w w' → w'.cell? ⟨g, 2, none⟩ = some qz) := Lib.hid fun w' x => Ext.cell x c2
  have HQC : Hid (∀ i, i < N → w.cell? (at_ qz i) = some (z.qs i)) := Lib.hid (by rw [hN, hqz]; exact hqc)
  have HH := Lib.hid (And.intro h hg)
  have HN := Lib.hid hN
  clear h hg hm hqz hN hsl hqc c2
  go_enter Try.func42, Try.ntmps42
  go_upto_region 1 with fail
  refine wp_region_plan [(0, true), (1, true), (2, true), (3, true), (4, true), (5, true), (6, true), (7, true), (9, true), (8, false), (10, false), (11, true), (12, false), (13, true)] (fun w' => w'.cell? ⟨g, 0, none⟩ = some (.int .i64 (s.n : Int)) ∧ w'.cell? ⟨g, 1, none⟩ = some m) (by kernel_rfl) (by kernel_rfl) (by kernel_rfl) (fun _ d _ _ _ h => by cases d <;> exact h) (KF.out _ (Mod.drew (Mod.refl _ _))) ?_
  simp only [planL, getO]
  iterate 9 (refine plan_take (v := ?_) (by rfl) (fun wS hS => ?_) ?_; rotate_left; (focus ((try dsimp only at hS); go_simp; (try with_reducible rfl); done)); (try simp only [Act.put, List.setIfInBounds_toArray, List.set_cons_zero, List.set_cons_succ]))
  refine plan_call (fun K hK => ?_)
  go_simp
  go_at_call 73; refine (copy_any _ _ s.M z.U (HB.out _ (Mod.drew (Mod.refl _ _)))).mono ?_; rintro en v1 ⟨po, U', rfl, b1, x1, f1⟩; have X1 : Ext w v1 := Mod.trans (Mod.drew (Mod.refl _ _)) x1; have H1 := Lib.hid (And.intro b1 (And.intro X1 f1))
  refine hK.out _ _ (KF.out _ X1) ?_
  clear hK K
  (try simp only [Act.put, List.setIfInBounds_toArray, List.set_cons_zero, List.set_cons_succ])
  refine plan_call (fun K hK => ?_)
  go_simp
  go_at_call 20; refine (shlog_at (HH.out.1.ext X1) HH.out.2).mono ?_; rintro en v2 ⟨hv, pv, V', rfl, lo, x2, f2⟩; obtain ⟨la1, lc1, hhv, -⟩ := lo.row.sl.shape; obtain ⟨la2, lc2, hpv, -⟩ := lo.prow.sl.shape; subst hhv hpv; have X2 : Ext w v2 := X1.trans x2; have H2 := Lib.hid (And.intro lo (And.intro x2 (And.intro f2 X2)))
  refine hK.out _ _ (KF.out _ X2) ?_
  clear hK K
  (try simp only [Act.put, List.setIfInBounds_toArray, List.set_cons_zero, List.set_cons_succ])
  (refine plan_take (v := ?_) (by rfl) (fun wS hS => ?_) ?_; rotate_left; (focus ((try dsimp only at hS); go_simp; (try with_reducible rfl); done)); (try simp only [Act.put, List.setIfInBounds_toArray, List.set_cons_zero, List.set_cons_succ]))
  refine plan_call (fun K hK => ?_)
  go_simp
  skip
  refine hK.out _ _ (KF.out _ (X2.alloc _)) ?_
  clear hK K
  (try simp only [Act.put, List.setIfInBounds_toArray, List.set_cons_zero, List.set_cons_succ])
  (refine plan_take (v := ?_) (by rfl) (fun wS hS => ?_) ?_; rotate_left; (focus ((try dsimp only at hS); go_simp; (try with_reducible rfl); done)); (try simp only [Act.put, List.setIfInBounds_toArray, List.set_cons_zero, List.set_cons_succ]))
  refine plan_nil ?_
  obtain ⟨w4, hw4⟩ : ∃ W, W = v2.alloc (.cells #[.int .i64 (s.n : Int), .pointer (some ⟨po, 0, none⟩), .slice none 0 0, .slice la1 s.L.ev.length lc1, .slice la2 s.L.pr.length lc2] 65) := ⟨_, rfl⟩
  obtain ⟨gN, hgN⟩ : ∃ g, g = v2.heap.size := ⟨_, rfl⟩
  rw [← hw4, ← hgN]
  have x4 : Ext v2 w4 := by rw [hw4]; exact (Mod.refl _ _).alloc _
  have X4 : Ext w w4 := X2.trans x4
  have R0 : NewRel w s gN (.pointer (some ⟨po, 0, none⟩)) U' (.slice la1 s.L.ev.length lc1) (.slice la2 s.L.pr.length lc2) V' 0 w4 :=
    ⟨⟨.slice none 0 0, fun _ => undef, fun _ _ => False, by rw [hw4, hgN]; exact heap_alloc_new _ _, Own.nil _ _ _, fun j h => absurd h (Nat.not_lt_zero _), fun j k h => absurd h (Nat.not_lt_zero _), fun j l k h => absurd h (Nat.not_lt_zero _), fun k hk => (by cases hk), fun _ => rfl⟩, (H1.out.1.ext H2.out.2.1).ext x4, lo.ext x4, X4, ⟨by rw [hgN]; exact X2.size, fun hu => by have h1 := H1.out.1.lt hu; have h2 := x2.size; omega⟩, fun k hk => H1.out.2.2 k hk |> fun h => by have := (Mod.refl NoF w).size; exact h,
      fun k hk => ⟨by have h1 := f2 k hk; have h2 := X1.size; omega, fun hu => by have h1 := f2 k hk; have h2 := H1.out.1.lt hu; omega⟩⟩
  have cq := KQ.out _ X4
  have HR0 := Lib.hid R0
  have HX4 := Lib.hid X4
  clear hw4 hgN x4 X4 R0 lo x2 f2 X1 X2 b1 x1 f1 c0 c1
  go_wp2_with fail
  go_loopw [5, 24] (fun s5 s24 wr => ∃ i : Nat, i ≤ N ∧ s24 = .int .i64 (i : Int) ∧ NewRel w s gN (.pointer (some ⟨po, 0, none⟩)) U' (.slice la1 s.L.ev.length lc1) (.slice la2 s.L.pr.length lc2) V' i wr) (fun _ i _ => N - (intOf i).toNat)
  case atStart => exact ⟨0, Nat.zero_le _, rfl, HR0.out⟩
  case round =>
    obtain ⟨i, hi, rfl, hrel⟩ := hrel
    have HR := Lib.hid hrel
    clear hrel cq
    by_cases hlt : i < N
    · have hlt' : (i : Int) < (N : Int) := by omega
      have i1 := HI.out i hlt
      rw [Nat.mul_one] at i1
      obtain ⟨⟨qv, qs, SQ, b, r, q, f, qq, qf, q0⟩, bl, lo, md, fg, fu, fl⟩ := HR.out
      have cqi := Ext.cell md (HQC.out i hlt)
      obtain ⟨r0, rn⟩ := nQ_pos (show i < nQ s by have := HN.out; omega)
      have HQI : Hid (∀ w', Ext wr w' → QueueAt w' (z.qs i) s.room (quB s (i : Int)) (z.SQ i)) := Lib.hid fun w' x => (HH.out.1.qat r0 i rn).ext (md.trans x)
      have KM : Hid (∀ w', Mod (fun q => qv.ownBlock = some q) wr w' → w'.cell? ⟨gN, 2, none⟩ = some qv ∧ w'.frozen? ⟨gN, 2, none⟩ = false) := Lib.hid fun w' M => by
        have h5 := M.blk b (fun h => r.apart_obj b (by decide) h)
        exact ⟨by simp [World.cell?, h5], by simp [World.frozen?, h5]⟩
      have HF : Hid (∀ (w3 w2 : World) (pq : Nat) (S : Nat → Prop) (qv' : Value), Ext wr w3 → QueueAt w3 (ptr pq) s.room (quB s (i : Int)) S → (∀ k, S k → wr.heap.size ≤ k) → Mod (fun q => qv.ownBlock = some q) w3 w2 → Own w2 68 1 qv' (i + 1) ((List.range i).map qs ++ [ptr pq]) → (∀ k, qv'.ownBlock = some k → qv.ownBlock = some k ∨ w3.heap.size ≤ k) → NewRel w s gN (.pointer (some ⟨po, 0, none⟩)) U' (.slice la1 s.L.ev.length lc1) (.slice la2 s.L.pr.length lc2) V' (i + 1) (w2.setCell ⟨gN, 2, none⟩ qv')) :=
        Lib.hid fun w3 w2 pq S qv' x3 Q1 f3 M o f' => NewRel.push b r q f qq qf bl lo md fg fu fl x3 Q1 f3 M o f'
      have HO := Lib.hid r
      have hl64 : (i : Int) ≤ 64 := by have h1 := HH.out.1.ok.n1; omega
      clear b r q f qq qf q0 bl lo md fg fu fl r0 rn
      go_upto_region 5 with fail
      refine wp_region_planL [11] [(0, 3), (1, 3), (2, 3), (3, 3), (4, 0), (5, 3), (6, 1), (7, 1), (8, 1), (9, 3), (10, 3), (11, 2)] (fun w' => w'.cell? ⟨gN, 2, none⟩ = some qv) (by kernel_rfl) (by kernel_rfl) (by kernel_rfl) (fun _ d _ _ _ h => by cases d <;> exact h) ((KM.out _ (Mod.drew (Mod.refl _ _))).1) ?_
      simp only [planLL, getO]
      (refine planL_pure (v := ?_) (by rfl) (fun wS => ?_) ?_; rotate_left; (focus (go_simp; (try with_reducible rfl); done)); (try simp only [Act.put, List.setIfInBounds_toArray, List.set_cons_zero, List.set_cons_succ]))
      (refine planL_pure (v := ?_) (by rfl) (fun wS => ?_) ?_; rotate_left; (focus (go_simp; (try with_reducible rfl); done)); (try simp only [Act.put, List.setIfInBounds_toArray, List.set_cons_zero, List.set_cons_succ]))
      (refine planL_pure (v := ?_) (by rfl) (fun wS => ?_) ?_; rotate_left; (focus (go_simp; (try with_reducible rfl); done)); (try simp only [Act.put, List.setIfInBounds_toArray, List.set_cons_zero, List.set_cons_succ]))
      (refine planL_pure (v := ?_) (by rfl) (fun wS => ?_) ?_; rotate_left; (focus (go_simp; (try with_reducible rfl); done)); (try simp only [Act.put, List.setIfInBounds_toArray, List.set_cons_zero, List.set_cons_succ]))
      (refine planL_take (v := ?_) (by rfl) (fun wS hS => ?_) ?_; rotate_left; (focus ((try dsimp only at hS); go_simp; (try with_reducible rfl); done)); (try simp only [Act.put, List.setIfInBounds_toArray, List.set_cons_zero, List.set_cons_succ]))
      (refine planL_pure (v := ?_) (by rfl) (fun wS => ?_) ?_; rotate_left; (focus (go_simp; (try with_reducible rfl); done)); (try simp only [Act.put, List.setIfInBounds_toArray, List.set_cons_zero, List.set_cons_succ]))
      refine planL_call (fun K hK => ?_)
      go_simp
      go_at_call 74; refine (qcopy_any _ _ s.room (quB s (i : Int)) (z.SQ i) (HQI.out _ (Mod.drew (Mod.refl _ _)))).mono ?_; rintro en w3 ⟨pq, S', rfl, Q1, y3, f3⟩; have X3 : Ext wr w3 := Mod.trans (Mod.drew (Mod.refl _ _)) y3
      refine hK.out _ _ ((KM.out _ (X3.mod _)).1) ?_
      clear hK K
      (try simp only [Act.put, List.setIfInBounds_toArray, List.set_cons_zero, List.set_cons_succ])
      refine planL_call (fun K hK => ?_)
      go_simp
      skip
      refine hK.out _ _ ((KM.out _ (Ext.mod (X3.alloc _) _)).1) ?_
      clear hK K
      (try simp only [Act.put, List.setIfInBounds_toArray, List.set_cons_zero, List.set_cons_succ])
      refine planL_call (fun K hK => ?_)
      refine step_app IQS rfl (.tmp 32) (.tmp 35) rfl (HO.out.ext (X3.alloc _)) (built_sl (n := 1) (g := w3.heap.size) (e := 68) (cs := #[.pointer (some ⟨pq, 0, none⟩)]) (by rw [heap_alloc_if, if_pos rfl]) rfl (by simp only [maxLen]; omega)) (by intro x hx; rw [List.mem_singleton.1 hx]; rfl) (by simp [Act.eval]) (by simp [Act.eval]) (by omega) (by simp only [maxLen]; omega) ?_; intro qv9 w9 ol9 gr9 fr9 nn9; obtain ⟨la9, lc9, hlv9, _⟩ := ol9.sl.shape; subst hlv9; have M9 : Mod (fun q => qv.ownBlock = some q) w3 w9 := Mod.grown (Mod.alloc (Mod.refl _ _) _) gr9 (fun q h => .inl h); have MM : Mod (fun q => qv.ownBlock = some q) wr w9 := (X3.mod _).trans M9; obtain ⟨e2, en2⟩ := KM.out _ MM
      refine hK.out _ _ ((KM.out _ MM).1) ?_
      clear hK K
      (try simp only [Act.put, List.setIfInBounds_toArray, List.set_cons_zero, List.set_cons_succ])
      (refine planL_pure (v := ?_) (by rfl) (fun wS => ?_) ?_; rotate_left; (focus (go_simp; (try with_reducible rfl); done)); (try simp only [Act.put, List.setIfInBounds_toArray, List.set_cons_zero, List.set_cons_succ]))
      (refine planL_pure (v := ?_) (by rfl) (fun wS => ?_) ?_; rotate_left; (focus (go_simp; (try with_reducible rfl); done)); (try simp only [Act.put, List.setIfInBounds_toArray, List.set_cons_zero, List.set_cons_succ]))
      refine planL_late (fun K hK => ?_)
      go_simp
      refine hK.out _ _ ?_
      clear hK K
      (try simp only [Act.put, List.setIfInBounds_toArray, List.set_cons_zero, List.set_cons_succ])
      refine planL_nil ?_
      have F2 : ∀ k, (Value.slice la9 (i + 1) lc9).ownBlock = some k → qv.ownBlock = some k ∨ w3.heap.size ≤ k := fun k hk => (fr9 k hk).imp id (fun h => by (try simp only [World.size_alloc] at h); omega)
      have HX := Lib.hid (HF.out w3 w9 pq S' _ X3 Q1 f3 M9 ol9 F2)
      clear e2 en2 gr9 fr9 ol9 nn9 M9 MM F2 Q1 y3 f3 X3 i1 cqi
      go_wp2_with fail
      go_roundw
      case rel => exact ⟨i + 1, by omega, by go_num, HX.out⟩
      case measure => simp [intOf]; omega
    · have hlt' : ¬ (i : Int) < (N : Int) := by omega
      obtain rfl : i = N := by omega
      go_wp2_with fail
      go_ret
      obtain ⟨z', e1, h1, h2⟩ := HR.out.done HH.out.1.ok (fun h => by rw [HN.out]; unfold nQ; rw [if_neg (by omega)]) (fun h => by rw [HN.out]; unfold nQ; rw [if_pos h])
      exact ⟨z', by rw [e1]; rfl, h1, HR.out.md, h2⟩
end Go.Proofs.Ytbhocahmhmafmaa
