/-
  The contract of (*renref18.Shared).Copy. No condition. The contract of (*renref18.Shared).Final. No condition.
-/
import Derived.Test.YtbhocahmhmafmaaGreatPRsAt
import Derived.Test.YtbhocahmhmafmaaGreatPRefAt
import Derived.Test.YtbhocahmhmafmaaGreatPRqFlush
import Derived.Test.YtbhocahmhmafmaaGreatPShLog
import Derived.Test.YtbhocahmhmafmaaGreatPRsWord
namespace Go.Ren
set_option linter.unusedVariables false
theorem head_own {s : Shm} (hk : ShOk s) : headL s.L (s.L.ev.length : Int) = s.L := by
 have h1 : headN s.L (s.L.ev.length : Int) = s.L.ev.length := by unfold headN; simp
 unfold headL
 rw [h1, List.take_length, List.filter_eq_self.2 (fun p hp => by
  have h2 := hk.prk p hp
  unfold prOk at h2
  unfold inHead
  simp only [decide_eq_true_eq] at h2 ⊢
  omega)]
end Go.Ren
namespace Go.Proofs.YtbhocahmhmafmaaGreat
open Go.Ren Go.RowKit
set_option linter.unusedVariables false
theorem RsIn.logIn {w : World} {z : RsV} {s : Shm} (h : RsIn w z s) : LogIn w z.hv z.pv z.V s.L := h.log.in_ h.ok.evI (fun i hi => by
 have h1 := h.ok.prk (prn s.L.pr i) (by rw [prn_eq hi]; exact List.getElem_mem hi)
 have h2 := h.ok.ev
 unfold prOk at h1
 simp only [decide_eq_true_eq] at h1
 unfold I64
 omega)
set_option maxRecDepth 100000 in
set_option maxHeartbeats 1600000 in
theorem rscopy_any (w : World) (z : RsV) (s : Shm) (h : RsIn w z s) : Calls Tryz.prog 123 #[ptr z.g] w fun e w' => ∃ z' : RsV, e = .returned (ptr z'.g) ∧ RsIn w' z' s ∧ Ext w w' ∧ ∀ k, z'.Fp s k → w.heap.size ≤ k := by
 obtain ⟨c0, c1, c2, c3, c4⟩ := h.cells
 have hn0 : 0 < s.n := by have := h.ok.n1; omega
 have hsl := (h.qrow hn0).sl
 have l2 := hsl.run_len (P := Tryz.prog) IQR.und 3
 have HI := Lib.hid (hsl.run_idx (P := Tryz.prog) IQR.und IQR.size .i64)
 have le := h.log.row.sl.run_len (P := Tryz.prog) IRe.und 3
 obtain ⟨g, hg⟩ : ∃ g, g = z.g := ⟨_, rfl⟩
 obtain ⟨m, hm⟩ : ∃ g, g = z.m := ⟨_, rfl⟩
 obtain ⟨qz, hqz⟩ : ∃ g, g = z.qv := ⟨_, rfl⟩
 obtain ⟨hv0, hhv0⟩ : ∃ g, g = z.hv := ⟨_, rfl⟩
 obtain ⟨pv0, hpv0⟩ : ∃ g, g = z.pv := ⟨_, rfl⟩
 obtain ⟨N, hN⟩ : ∃ n, n = s.n := ⟨_, rfl⟩
 have HL : Hid (∀ w', Ext w w' → LogIn w' hv0 pv0 z.V s.L) := Lib.hid fun w' x => by rw [hhv0, hpv0]; exact h.logIn.ext x
 have HL2 := Lib.hid (And.intro (show I64 (s.L.ev.length : Int) by have := h.ok.ev; unfold I64; omega) (And.intro (sh_small h.ok) (head_own h.ok)))
 rw [← hg] at c0 c1 c2 c3 c4 ⊢
 rw [← hm] at c1
 rw [← hqz] at c2 l2 HI
 rw [← hN] at l2 HI
 rw [← hhv0] at c3 le
 rw [← hpv0] at c4
 have HB : Hid (∀ w', Ext w w' → RefAt w' m s.M z.U) := Lib.hid fun w' x => by rw [hm]; exact h.blks.ext x
 have KF : Hid (∀ w', Ext w w' → w'.cell? ⟨g, 0, none⟩ = some (.int .i64 (s.room : Int)) ∧ w'.cell? ⟨g, 1, none⟩ = some m ∧ w'.cell? ⟨g, 3, none⟩ = some hv0 ∧ w'.cell? ⟨g, 4, none⟩ = some pv0) := Lib.hid fun w' x => ⟨Ext.cell x c0, Ext.cell x c1, Ext.cell x c3, Ext.cell x c4⟩
 have KQ : Hid (∀ w', Ext w w' → w'.cell? ⟨g, 2, none⟩ = some qz) := Lib.hid fun w' x => Ext.cell x c2
 have HQC : Hid (∀ i, i < N → w.cell? (at_ qz i) = some (z.qs i)) := Lib.hid (fun i hi => by rw [hqz]; exact h.qcell hn0 (by omega))
 have HH := Lib.hid (And.intro h hg)
 have HN := Lib.hid hN
 clear h hg hm hqz hN hsl c2 hhv0 hpv0 hn0
 go_enter Tryz.func123, Tryz.ntmps123
 go_upto_region 1 with fail
 refine wp_region_plan [(0, true), (1, true), (2, true), (3, true), (4, true), (5, true), (6, true), (7, true), (9, true), (10, true), (11, true), (12, true), (13, true), (14, true), (15, true), (16, true), (17, true), (18, true), (8, false), (19, false), (20, true), (21, false), (22, true)] (fun w' => w'.cell? ⟨g, 0, none⟩ = some (.int .i64 (s.room : Int)) ∧ w'.cell? ⟨g, 1, none⟩ = some m ∧ w'.cell? ⟨g, 3, none⟩ = some hv0 ∧ w'.cell? ⟨g, 4, none⟩ = some pv0) (by kernel_rfl) (by kernel_rfl) (by kernel_rfl) (fun _ d _ _ _ h => by cases d <;> exact h) (KF.out _ (Mod.drew (Mod.refl _ _))) ?_
 simp only [planL, getO]
 iterate 18 (refine plan_take (v := ?_) (by rfl) (fun wS hS => ?_) ?_; rotate_left; (focus ((try dsimp only at hS); go_simp; (try with_reducible rfl); done)); (try simp only [Act.put, List.setIfInBounds_toArray, List.set_cons_zero, List.set_cons_succ]))
 refine plan_call (fun K hK => ?_)
 go_simp
 go_at_call 154; refine (refcopy_any _ _ s.M z.U (HB.out _ (Mod.drew (Mod.refl _ _)))).mono ?_; rintro en v1 ⟨po, U', rfl, b1, x1, f1⟩; have X1 : Ext w v1 := Mod.trans (Mod.drew (Mod.refl _ _)) x1; have H1 := Lib.hid (And.intro b1 (And.intro X1 f1))
 refine hK.out _ _ (KF.out _ X1) ?_
 clear hK K
 (try simp only [Act.put, List.setIfInBounds_toArray, List.set_cons_zero, List.set_cons_succ])
 refine plan_call (fun K hK => ?_)
 go_simp
 go_at_call 155; refine (rhead_any _ hv0 pv0 z.V s.L (HL.out _ X1) _ HL2.out.1 HL2.out.2.1).mono ?_; rintro en v2 ⟨hv, pv, V', rfl, lo, x2, f2⟩; rw [HL2.out.2.2] at lo f2; obtain ⟨la1, lc1, hhv, -⟩ := lo.row.sl.shape; obtain ⟨la2, lc2, hpv, -⟩ := lo.prow.sl.shape; subst hhv hpv; have X2 : Ext w v2 := X1.trans x2; have H2 := Lib.hid (And.intro lo (And.intro x2 (And.intro f2 X2)))
 refine hK.out _ _ (KF.out _ X2) ?_
 clear hK K
 (try simp only [Act.put, List.setIfInBounds_toArray, List.set_cons_zero, List.set_cons_succ])
 (refine plan_take (v := ?_) (by rfl) (fun wS hS => ?_) ?_; rotate_left; (focus ((try dsimp only at hS); go_simp; (try with_reducible rfl); done)); (try simp only [Act.put, List.setIfInBounds_toArray, List.set_cons_zero, List.set_cons_succ]))
 refine plan_call (fun K hK => ?_)
 go_simp
 skip
 refine hK.out _ _ (KF.out _ (X2.alloc _)) ?_
 clear hK K
 (try simp only [Act.put, List.setIfInBounds_toArray, List.set_cons_zero, List.set_cons_succ])
 (refine plan_take (v := ?_) (by rfl) (fun wS hS => ?_) ?_; rotate_left; (focus ((try dsimp only at hS); go_simp; (try with_reducible rfl); done)); (try simp only [Act.put, List.setIfInBounds_toArray, List.set_cons_zero, List.set_cons_succ]))
 refine plan_nil ?_
 obtain ⟨w4, hw4⟩ : ∃ W, W = v2.alloc (.cells #[.int .i64 (s.room : Int), .pointer (some ⟨po, 0, none⟩), .slice none 0 0, .slice la1 s.L.ev.length lc1, .slice la2 s.L.pr.length lc2] 85) := ⟨_, rfl⟩
 obtain ⟨gN, hgN⟩ : ∃ g, g = v2.heap.size := ⟨_, rfl⟩
 rw [← hw4, ← hgN]
 have x4 : Ext v2 w4 := by rw [hw4]; exact (Mod.refl _ _).alloc _
 have X4 : Ext w w4 := X2.trans x4
 have R0 : RNewRel w s gN (.pointer (some ⟨po, 0, none⟩)) U' (.slice la1 s.L.ev.length lc1) (.slice la2 s.L.pr.length lc2) V' 0 w4 :=
  ⟨⟨.slice none 0 0, fun _ => undef, fun _ _ => False, by rw [hw4, hgN]; exact heap_alloc_new _ _, Own.nil _ _ _, fun j h => absurd h (Nat.not_lt_zero _), fun j k h => absurd h (Nat.not_lt_zero _), fun j l k h => absurd h (Nat.not_lt_zero _), fun k hk => (by cases hk), fun _ => rfl⟩, (H1.out.1.ext H2.out.2.1).ext x4, lo.ext x4, X4, ⟨by rw [hgN]; exact X2.size, fun hu => by have h1 := H1.out.1.lt hu; have h2 := x2.size; omega⟩, fun k hk => H1.out.2.2 k hk |> fun h => by have := (Mod.refl NoF w).size; exact h,
   fun k hk => ⟨by have h1 := f2 k hk; have h2 := X1.size; omega, fun hu => by have h1 := f2 k hk; have h2 := H1.out.1.lt hu; omega⟩⟩
 have HR0 := Lib.hid R0
 have HX4 := Lib.hid X4
 clear hw4 hgN x4 X4 R0 lo x2 f2 X1 X2 b1 x1 f1 c0 c1 c3 c4
 go_wp2_with fail
 go_loopw [4] (fun s4 wr => ∃ i : Nat, i ≤ N ∧ s4 = .int .i64 (i : Int) ∧ RNewRel w s gN (.pointer (some ⟨po, 0, none⟩)) U' (.slice la1 s.L.ev.length lc1) (.slice la2 s.L.pr.length lc2) V' i wr) (fun i _ => N - (intOf i).toNat)
 case atStart => exact ⟨0, Nat.zero_le _, rfl, HR0.out⟩
 case round =>
  obtain ⟨i, hi, rfl, hrel⟩ := hrel
  have HR := Lib.hid hrel
  clear hrel
  have cq := KQ.out _ HR.out.md
  by_cases hlt : i < N
  · have hlt' : (i : Int) < (N : Int) := by omega
    have i1 := HI.out i hlt
    rw [Nat.mul_one] at i1
    obtain ⟨⟨qv, qs, SQ, b, r, q, f, qq, qf, q0⟩, bl, lo, md, fg, fu, fl⟩ := HR.out
    have cqi := Ext.cell md (HQC.out i hlt)
    have rn : i < s.n := by have := HN.out; omega
    have HQI : Hid (∀ w', Ext wr w' → RqAt w' (z.qs i) s.room (quB s (i : Int)) (z.SQ i)) := Lib.hid fun w' x => (HH.out.1.qat (by omega) i rn).ext (md.trans x)
    have KM : Hid (∀ w', Mod (fun q => qv.ownBlock = some q) wr w' → (w'.cell? ⟨gN, 2, none⟩ = some qv ∧ w'.cell? ⟨g, 2, none⟩ = some qz ∧ w'.cell? (at_ qz i) = some (z.qs i)) ∧ w'.frozen? ⟨gN, 2, none⟩ = false) := Lib.hid fun w' M => by
     have h5 := M.blk b (fun h => r.apart_obj b (by decide) h)
     have hX : Ext w w' := md.trans' M (fun q hq => .inr (qf q hq).1)
     exact ⟨⟨by simp [World.cell?, h5], KQ.out _ hX, Ext.cell hX (HQC.out i hlt)⟩, by simp [World.frozen?, h5]⟩
    have HF : Hid (∀ (w3 w2 : World) (pq : Nat) (S : Nat → Prop) (qv' : Value), Ext wr w3 → RqAt w3 (ptr pq) s.room (quB s (i : Int)) S → (∀ k, S k → wr.heap.size ≤ k) → Mod (fun q => qv.ownBlock = some q) w3 w2 → Own w2 86 1 qv' (i + 1) ((List.range i).map qs ++ [ptr pq]) → (∀ k, qv'.ownBlock = some k → qv.ownBlock = some k ∨ w3.heap.size ≤ k) → RNewRel w s gN (.pointer (some ⟨po, 0, none⟩)) U' (.slice la1 s.L.ev.length lc1) (.slice la2 s.L.pr.length lc2) V' (i + 1) (w2.setCell ⟨gN, 2, none⟩ qv')) :=
     Lib.hid fun w3 w2 pq S qv' x3 Q1 f3 M o f' => RNewRel.push b r q f qq qf bl lo md fg fu fl x3 Q1 f3 M o f'
    have HO := Lib.hid r
    have hl64 : (i : Int) ≤ 64 := by have h1 := HH.out.1.ok.n1; omega
    clear b r q f qq qf q0 bl lo md fg fu fl rn
    go_upto_region 5 with fail
    refine wp_region_planL [17] [(0, 3), (1, 3), (2, 3), (3, 3), (4, 0), (5, 3), (6, 3), (7, 3), (8, 0), (9, 3), (10, 0), (11, 0), (12, 1), (13, 1), (14, 1), (15, 3), (16, 3), (17, 2)] (fun w' => w'.cell? ⟨gN, 2, none⟩ = some qv ∧ w'.cell? ⟨g, 2, none⟩ = some qz ∧ w'.cell? (at_ qz i) = some (z.qs i)) (by kernel_rfl) (by kernel_rfl) (by kernel_rfl) (fun _ d _ _ _ h => by cases d <;> exact h) ((KM.out _ (Mod.drew (Mod.refl _ _))).1) ?_
    simp only [planLL, getO]
    iterate 4 (refine planL_pure (v := ?_) (by rfl) (fun wS => ?_) ?_; rotate_left; (focus (go_simp; (try with_reducible rfl); done)); (try simp only [Act.put, List.setIfInBounds_toArray, List.set_cons_zero, List.set_cons_succ]))
    (refine planL_take (v := ?_) (by rfl) (fun wS hS => ?_) ?_; rotate_left; (focus ((try dsimp only at hS); go_simp; (try with_reducible rfl); done)); (try simp only [Act.put, List.setIfInBounds_toArray, List.set_cons_zero, List.set_cons_succ]))
    iterate 3 (refine planL_pure (v := ?_) (by rfl) (fun wS => ?_) ?_; rotate_left; (focus (go_simp; (try with_reducible rfl); done)); (try simp only [Act.put, List.setIfInBounds_toArray, List.set_cons_zero, List.set_cons_succ]))
    (refine planL_take (v := ?_) (by rfl) (fun wS hS => ?_) ?_; rotate_left; (focus ((try dsimp only at hS); go_simp; (try with_reducible rfl); done)); (try simp only [Act.put, List.setIfInBounds_toArray, List.set_cons_zero, List.set_cons_succ]))
    (refine planL_pure (v := ?_) (by rfl) (fun wS => ?_) ?_; rotate_left; (focus (go_simp; (try with_reducible rfl); done)); (try simp only [Act.put, List.setIfInBounds_toArray, List.set_cons_zero, List.set_cons_succ]))
    iterate 2 (refine planL_take (v := ?_) (by rfl) (fun wS hS => ?_) ?_; rotate_left; (focus ((try dsimp only at hS); go_simp; (try with_reducible rfl); done)); (try simp only [Act.put, List.setIfInBounds_toArray, List.set_cons_zero, List.set_cons_succ]))
    refine planL_call (fun K hK => ?_)
    go_simp
    go_at_call 156; refine (rqcopy_any _ _ s.room (quB s (i : Int)) (z.SQ i) (HQI.out _ (Mod.drew (Mod.refl _ _)))).mono ?_; rintro en w3 ⟨pq, S', rfl, Q1, y3, f3⟩; have X3 : Ext wr w3 := Mod.trans (Mod.drew (Mod.refl _ _)) y3
    refine hK.out _ _ ((KM.out _ (X3.mod _)).1) ?_
    clear hK K
    (try simp only [Act.put, List.setIfInBounds_toArray, List.set_cons_zero, List.set_cons_succ])
    refine planL_call (fun K hK => ?_)
    go_simp
    skip
    refine hK.out _ _ ((KM.out _ (Ext.mod (X3.alloc _) _)).1) ?_
    clear hK K
    (try simp only [Act.put, List.setIfInBounds_toArray, List.set_cons_zero, List.set_cons_succ])
    refine planL_call (fun K hK => ?_)
    refine step_app IQR rfl (.tmp 40) (.tmp 49) rfl (HO.out.ext (X3.alloc _)) (built_sl (n := 1) (g := w3.heap.size) (e := 86) (cs := #[.pointer (some ⟨pq, 0, none⟩)]) (by rw [heap_alloc_if, if_pos rfl]) rfl (by simp only [maxLen]; omega)) (by intro x hx; rw [List.mem_singleton.1 hx]; rfl) (by simp [Act.eval]) (by simp [Act.eval]) (by omega) (by simp only [maxLen]; omega) ?_; intro qv9 w9 ol9 gr9 fr9 nn9; obtain ⟨la9, lc9, hlv9, _⟩ := ol9.sl.shape; subst hlv9; have M9 : Mod (fun q => qv.ownBlock = some q) w3 w9 := Mod.grown (Mod.alloc (Mod.refl _ _) _) gr9 (fun q h => .inl h); have MM : Mod (fun q => qv.ownBlock = some q) wr w9 := (X3.mod _).trans M9; obtain ⟨e2, en2⟩ := KM.out _ MM
    refine hK.out _ _ ((KM.out _ MM).1) ?_
    clear hK K
    (try simp only [Act.put, List.setIfInBounds_toArray, List.set_cons_zero, List.set_cons_succ])
    iterate 2 (refine planL_pure (v := ?_) (by rfl) (fun wS => ?_) ?_; rotate_left; (focus (go_simp; (try with_reducible rfl); done)); (try simp only [Act.put, List.setIfInBounds_toArray, List.set_cons_zero, List.set_cons_succ]))
    refine planL_late (fun K hK => ?_)
    go_simp
    refine hK.out _ _ ?_
    clear hK K
    (try simp only [Act.put, List.setIfInBounds_toArray, List.set_cons_zero, List.set_cons_succ])
    refine planL_nil ?_
    have F2 : ∀ k, (Value.slice la9 (i + 1) lc9).ownBlock = some k → qv.ownBlock = some k ∨ w3.heap.size ≤ k := fun k hk => (fr9 k hk).imp id (fun h => by (try simp only [World.size_alloc] at h); omega)
    have HX := Lib.hid (HF.out w3 w9 pq S' _ X3 Q1 f3 M9 ol9 F2)
    clear e2 en2 gr9 fr9 ol9 nn9 M9 MM F2 Q1 y3 f3 X3 i1 cqi cq
    go_wp2_with fail
    go_roundw
    case rel => exact ⟨i + 1, by omega, by go_num, HX.out⟩
    case measure => simp [intOf]; omega
  · have hlt' : ¬ (i : Int) < (N : Int) := by omega
    obtain rfl : i = N := by omega
    go_wp2_with fail
    go_ret
    obtain ⟨z', e1, h1, h2⟩ := HR.out.done HH.out.1.ok (fun h => HN.out) (fun h => by have := HN.out; omega)
    exact ⟨z', by rw [e1]; rfl, h1, HR.out.md, h2⟩
end Go.Proofs.YtbhocahmhmafmaaGreat
namespace Go.Proofs.YtbhocahmhmafmaaGreat
open Go.Ren Go.RowKit
set_option linter.unusedVariables false
structure FreshRs (w wr : World) (g : Nat) (s : Shm) : Prop where
 ex : ∃ z : RsV, g = z.g ∧ RsIn wr z s ∧ ∀ k, z.Fp s k → w.heap.size ≤ k
 x : Ext w wr
theorem FreshRs.to {w wr w' : World} {g : Nat} {s s' : Shm} {z : RsV} (hg : g = z.g) (hf : ∀ k, z.Fp s k → w.heap.size ≤ k) (x : Ext w wr) (h : RsTo z s s' wr w') : FreshRs w w' g s' := by
 obtain ⟨z', e, h1, m, f⟩ := h
 exact ⟨⟨z', hg.trans e.symm, h1, fun k hk => (f k hk).elim (hf k) (fun h => Nat.le_trans x.size h)⟩, x.trans' m (fun q hq => .inr (hf q hq))⟩
set_option maxRecDepth 100000 in
set_option maxHeartbeats 1600000 in
theorem rsfinal_any (w : World) (z : RsV) (s : Shm) (h : RsIn w z s) : Calls Tryz.prog 63 #[ptr z.g] w (BytesPost (shFin s s.n).M w) := by
 have HS := Lib.hid h
 clear h
 go_enter Tryz.func63, Tryz.ntmps63
 go_wp2_with fail
 refine (rscopy_any _ z s HS.out).mono ?_
 rintro e w1 ⟨z1, rfl, h1, x1, f1⟩
 obtain ⟨g, hg⟩ : ∃ g, g = z1.g := ⟨_, rfl⟩
 rw [← hg]
 have H1 := Lib.hid (show FreshRs w w1 g s from ⟨⟨z1, hg, h1, f1⟩, x1⟩)
 clear h1 x1 f1 hg
 go_wp2_with fail
 go_loopw [4] (fun s4 wr => ∃ i : Nat, i ≤ s.n ∧ s4 = .int .i64 (i : Int) ∧ FreshRs w wr g (shFin s i)) (fun i _ => s.n - (intOf i).toNat)
 case atStart => exact ⟨0, Nat.zero_le _, rfl, H1.out⟩
 case round =>
  obtain ⟨i, hi, rfl, hrel⟩ := hrel
  have HR := Lib.hid hrel
  clear hrel
  obtain ⟨⟨z2, g2, h2, f2⟩, x2⟩ := HR.out
  have hn := (fin_n s i).1
  have lq := (h2.qrow (by have := HS.out.ok.n1; omega)).sl.run_len (P := Tryz.prog) IQR.und 3
  rw [hn] at lq
  have c2 := (h2.at_cells g2).2.2.1
  by_cases hlt : i < s.n
  · have hlt' : (i : Int) < (s.n : Int) := by omega
    have hn64 : (s.n : Int) ≤ 64 := by have := HS.out.ok.n1; omega
    obtain ⟨qv, qi, m, hd⟩ := h2.dr g2 (by rw [hn]; exact hlt)
    have HD := Lib.hid hd
    have ix := hd.ix
    rw [← hd.e.1] at lq
    clear c2
    obtain ⟨c2, cq, c1⟩ := hd.km wr (Mod.refl _ _)
    have H2 := Lib.hid (And.intro g2 (And.intro h2 (And.intro f2 (And.intro x2 (show i < (shFin s i).n by rw [hn]; exact hlt)))))
    clear g2 h2 f2 x2 hd hn
    go_upto_region 5 with fail
    clear lq
    refine wp_region_plan [(0, true), (1, true), (2, true), (3, true), (4, true), (5, true), (6, true), (7, true), (8, true), (9, true), (10, true), (11, false)] (fun w' => w'.cell? ⟨g, 2, none⟩ = some qv ∧ w'.cell? (at_ qv i) = some qi ∧ w'.cell? ⟨g, 1, none⟩ = some m) (by kernel_rfl) (by kernel_rfl) (by kernel_rfl) (fun _ d _ _ _ h => by cases d <;> exact h) (⟨c2, cq, c1⟩) ?_
    simp only [planL, getO]
    iterate 11 (refine plan_take (v := ?_) (by rfl) (fun wS hS => ?_) ?_; rotate_left; (focus ((try dsimp only at hS); go_simp; (try with_reducible rfl); done)); (try simp only [Act.put, List.setIfInBounds_toArray, List.set_cons_zero, List.set_cons_succ]))
    refine plan_call (fun K hK => ?_)
    go_simp
    go_at_call 106; refine (rdrain_any _ qi m (shFin s i).room (quB (shFin s i) (i : Int)) (z2.SQ i) (HD.out.q _ (Mod.drew (Mod.refl _ _))) (shFin s i).M z2.U (HD.out.b _ (Mod.drew (Mod.refl _ _))) HD.out.ap).mono ?_; rintro en v1 ⟨rfl, S1, q1, b1, m1, sf1⟩; have M1 : Mod (fun k => z2.SQ i k ∨ z2.U k) wr v1 := Mod.trans (Mod.drew (Mod.refl _ _)) m1; have HE := Lib.hid (And.intro q1 (And.intro b1 (And.intro M1 sf1)))
    refine hK.out _ _ (HD.out.km _ M1) ?_
    clear hK K
    (try simp only [Act.put, List.setIfInBounds_toArray, List.set_cons_zero, List.set_cons_succ])
    refine plan_nil ?_
    have HP : Hid (RsTo z2 (shFin s i) (shFin s (i + 1)) wr v1) := Lib.hid (by
     obtain ⟨q1, b1, M1, sf1⟩ := HE.out
     have hok := H2.out.2.1.ok.drain H2.out.2.2.2.2
     show RsTo z2 (shFin s i) (shDrain (shFin s i) (i : Int)) wr v1
     unfold shDrain at hok ⊢
     rw [Int.toNat_natCast] at hok ⊢
     exact (HD.out.fin q1 b1 M1 (fun k hk => (sf1 k hk).imp id (fun h => by simpa only [World.size_drew] using h)) hok).to)
    have HF := Lib.hid (FreshRs.to H2.out.1 H2.out.2.2.1 H2.out.2.2.2.1 HP.out)
    clear c1 c2 cq ix
    go_wp2_with fail
    go_roundw
    case rel => exact ⟨i + 1, by omega, by go_num, HF.out⟩
    case measure => simp [intOf]; omega
  · have hlt' : ¬ (i : Int) < (s.n : Int) := by omega
    have hin : i = s.n := by omega
    have c1 := (h2.at_cells g2).2.1
    have hb := h2.blks
    obtain ⟨m, hm⟩ : ∃ m, m = z2.m := ⟨_, rfl⟩
    obtain ⟨qv, hqv⟩ : ∃ m, m = z2.qv := ⟨_, rfl⟩
    rw [← hm] at c1 hb
    rw [← hqv] at c2 lq
    rw [hin] at hb
    have HB := Lib.hid (And.intro hb x2)
    clear g2 h2 f2 x2 hin hb hm hqv hn
    go_wp2_with fail
    refine (rall_any _ m (shFin s s.n).M z2.U HB.out.1).mono ?_
    rintro e w3 ⟨v, V, rfl, r, x⟩
    have HX := Lib.hid (And.intro r x)
    clear r x
    go_wp2_with fail
    go_ret
    exact ⟨v, V, rfl, HX.out.1, HB.out.2.trans HX.out.2⟩
end Go.Proofs.YtbhocahmhmafmaaGreat
