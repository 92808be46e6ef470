/-
  The contract of renlaw20.Same, of two memories that are the same. No condition. The contracts of renlaw20.want. No condition. Both memories side by side: the program's and the document's. No condition.
-/
import Derived.Test.YtbhocahmhmafmaaGreatPRsCopy
import Derived.Test.YtbhocahmhmafmaaGreatPRsSync
import Derived.Test.YtbhocahmhmafmaaGreatPShFresh
import Derived.Test.YtbhocahmhmafmaaGreatPRvAlike
import Derived.Test.YtbhocahmhmafmaaGreatPBlkAt
import Derived.Test.YtbhocahmhmafmaaGreatPShAct
import Derived.Test.YtbhocahmhmafmaaGreatPRsAt
namespace Go.Ren
theorem ShOk.m_le {s : Shm} (h : ShOk s) : s.M.length ≤ 1000000 := by have := h.bk.cnt; omega
end Go.Ren
namespace Go.Proofs.YtbhocahmhmafmaaGreat
open Go.Ren Go.RowKit
set_option linter.unusedVariables false
theorem rspend_at {g : Nat} {w : World} {z : RsV} {s : Shm} (hg : g = z.g) (h : RsIn w z s) (a : Int) : Calls Tryz.prog 60 #[ptr g, .int .i64 a] w fun e w' => e = .returned (.int .i64 (shPend s a : Int)) ∧ w = w' := by subst hg; exact rspend_any w z s h a
theorem rsfinal_at {g : Nat} {w : World} {z : RsV} {s : Shm} (hg : g = z.g) (h : RsIn w z s) : Calls Tryz.prog 63 #[ptr g] w (BytesPost (shFin s s.n).M w) := by subst hg; exact rsfinal_any w z s h
theorem shpend_at {g : Nat} {w : World} {z : ShV} {s : Shm} (hg : g = z.g) (h : ShIn w z s) (a : Int) : Calls Tryz.prog 16 #[ptr g, .int .i64 a] w fun e w' => e = .returned (.int .i64 (shPend s a : Int)) ∧ w = w' := by subst hg; exact shpend_any w z s h a
theorem shfinal_at {g : Nat} {w : World} {z : ShV} {s : Shm} (hg : g = z.g) (h : ShIn w z s) : Calls Tryz.prog 20 #[ptr g] w (BytesPost (shFin s s.n).M w) := by subst hg; exact shfinal_any w z s h
set_option maxRecDepth 100000 in
set_option maxHeartbeats 3200000 in
theorem rssame_any (w : World) (z : ShV) (x : RsV) (s : Shm) (h1 : ShIn w z s) (h2 : RsIn w x s) : Calls Tryz.prog 14 #[ptr z.g, ptr x.g] w fun e w' => e = .returned (.bool true) ∧ Ext w w' := by
 have KH : Hid (∀ w', Ext w w' → ShIn w' z s ∧ RsIn w' x s) := Lib.hid fun w' y => ⟨h1.ext y, h2.ext y⟩
 obtain ⟨-, c1, c2, c3, c4⟩ := h2.cells
 have lq := (h2.qrow (by have := h2.ok.n1; omega)).sl.run_len (P := Tryz.prog) IQR.und 3
 obtain ⟨g, hg⟩ : ∃ g, g = z.g := ⟨_, rfl⟩
 obtain ⟨gx, hgx⟩ : ∃ g, g = x.g := ⟨_, rfl⟩
 obtain ⟨mx, hmx⟩ : ∃ g, g = x.m := ⟨_, rfl⟩
 obtain ⟨hx, hhx⟩ : ∃ g, g = x.hv := ⟨_, rfl⟩
 obtain ⟨px, hpx⟩ : ∃ g, g = x.pv := ⟨_, rfl⟩
 obtain ⟨qx, hqx⟩ : ∃ g, g = x.qv := ⟨_, rfl⟩
 rw [← hgx] at c1 c2 c3 c4
 rw [← hmx] at c1
 rw [← hqx] at c2 lq
 rw [← hhx] at c3
 rw [← hpx] at c4
 rw [← hg, ← hgx]
 have HG := Lib.hid (And.intro hg (And.intro hgx h1.ok))
 have KF : Hid (∀ w', Ext w w' → w'.cell? ⟨gx, 3, none⟩ = some hx ∧ w'.cell? ⟨gx, 4, none⟩ = some px ∧ w'.cell? ⟨gx, 1, none⟩ = some mx) := Lib.hid fun w' y => ⟨Ext.cell y c3, Ext.cell y c4, Ext.cell y c1⟩
 have KL : Hid (∀ w', Ext w w' → LogIn w' hx px x.V s.L) := Lib.hid fun w' y => by rw [hhx, hpx]; exact (h2.ext y).logIn
 have KB : Hid (∀ w', Ext w w' → RefAt w' mx s.M x.U) := Lib.hid fun w' y => by rw [hmx]; exact h2.blks.ext y
 have HFM : Hid ((shFin s s.n).M.length ≤ 1000000) := Lib.hid (fin_ok h1.ok s.n (Nat.le_refl _)).m_le
 have hn64 : (s.n : Int) ≤ 64 := by have := h1.ok.n1; omega
 clear h1 h2 hg hgx hmx hhx hpx hqx c1 c3 c4
 go_enter Tryz.func14, Tryz.ntmps14
 go_wp2_with fail
 go_loopw [5] (fun s5 wr => ∃ k : Nat, k ≤ s.n + 2 ∧ s5 = .int .i64 ((k : Int) - 1) ∧ w = wr) (fun i _ => s.n + 2 - (intOf i + 1).toNat)
 case atStart => exact ⟨0, by omega, by go_num, rfl⟩
 case round =>
  obtain ⟨k, hk, rfl, rfl⟩ := hrel
  by_cases hlt : k ≤ s.n + 1
  · have hlt' : (k : Int) - 1 ≤ (s.n : Int) := by omega
    go_wp2_with fail
    refine (shpend_at HG.out.1 (KH.out _ (Mod.refl _ _)).1 _).mono ?_
    rintro e w1 ⟨rfl, rfl⟩
    go_wp2_with fail
    refine (rspend_at HG.out.2.1 (KH.out _ (Mod.refl _ _)).2 _).mono ?_
    rintro e w1 ⟨rfl, rfl⟩
    go_wp2_with fail
    go_roundw
    case rel => exact ⟨k + 1, by omega, by go_num, (by first | rfl | trivial)⟩
    case measure => simp [intOf]; omega
  · have hlt' : ¬ (k : Int) - 1 ≤ (s.n : Int) := by omega
    go_upto_region 6 with fail
    clear c2 lq
    refine wp_region_plan [(0, true), (3, true), (4, true), (5, true), (6, true), (1, false), (2, false), (7, false), (8, true), (9, true), (11, true), (12, true), (13, true), (14, true), (10, false), (15, false), (16, false), (17, true), (18, true), (19, true), (21, true), (20, false), (22, false), (23, false), (24, true), (25, true)] (fun w' => w'.cell? ⟨gx, 3, none⟩ = some hx ∧ w'.cell? ⟨gx, 4, none⟩ = some px ∧ w'.cell? ⟨gx, 1, none⟩ = some mx) (by kernel_rfl) (by kernel_rfl) (by kernel_rfl) (fun _ d _ _ _ h => by cases d <;> exact h) (KF.out _ (Mod.drew (Mod.refl NoF w))) ?_
    simp only [planL, getO]
    iterate 5 (refine plan_take (v := ?_) (by rfl) (fun wS hS => ?_) ?_; rotate_left; (focus ((try dsimp only at hS); go_simp; (try with_reducible rfl); done)); (try simp only [Act.put, List.setIfInBounds_toArray, List.set_cons_zero, List.set_cons_succ]))
    refine plan_call (fun K hK => ?_)
    go_simp
    go_at_call 17; refine (shlog_at (KH.out _ (Mod.drew (Mod.refl NoF w))).1 HG.out.1).mono ?_; rintro en v1 ⟨hv, pv, V1, rfl, lo, y1, -⟩; have L1 := log_in lo HG.out.2.2; have E1 : Ext w v1 := (Mod.drew (Mod.refl NoF w)).trans y1
    refine hK.out _ _ (KF.out _ E1) ?_
    clear hK K
    (try simp only [Act.put, List.setIfInBounds_toArray, List.set_cons_zero, List.set_cons_succ])
    refine plan_call (fun K hK => ?_)
    go_simp
    go_at_call 23; refine (rlog_any _ hv pv V1 s.L L1 HG.out.2.2.ev).mono ?_; rintro en v2 ⟨hv2, rfl, L2, y2⟩; have E2 : Ext w v2 := E1.trans y2
    refine hK.out _ _ (KF.out _ E2) ?_
    clear hK K
    (try simp only [Act.put, List.setIfInBounds_toArray, List.set_cons_zero, List.set_cons_succ])
    refine plan_call (fun K hK => ?_)
    go_simp
    go_at_call 61; refine (rlsame_any _ hv2 pv hx px V1 x.V s.L s.L L2 (KL.out _ E2)).mono ?_; rintro en v3 ⟨rfl, y3⟩; rw [lgSame_iff.2 rfl]; have E3 : Ext w v3 := E2.trans y3
    refine hK.out _ _ (KF.out _ E3) ?_
    clear hK K
    (try simp only [Act.put, List.setIfInBounds_toArray, List.set_cons_zero, List.set_cons_succ])
    iterate 6 (refine plan_take (v := ?_) (by rfl) (fun wS hS => ?_) ?_; rotate_left; (focus ((try dsimp only at hS); go_simp; (try with_reducible rfl); done)); (try simp only [Act.put, List.setIfInBounds_toArray, List.set_cons_zero, List.set_cons_succ]))
    refine plan_call (fun K hK => ?_)
    go_simp
    go_at_call 19; refine (shbytes_at (KH.out _ E3).1 HG.out.1).mono ?_; rintro en v4 ⟨b1, B1, rfl, r1, y4⟩; have E4 : Ext w v4 := E3.trans y4
    refine hK.out _ _ (KF.out _ E4) ?_
    clear hK K
    (try simp only [Act.put, List.setIfInBounds_toArray, List.set_cons_zero, List.set_cons_succ])
    refine plan_call (fun K hK => ?_)
    go_simp
    go_at_call 62; refine (rall_any _ mx s.M x.U (KB.out _ E4)).mono ?_; rintro en v5 ⟨b2, B2, rfl, r2, y5⟩; have E5 : Ext w v5 := E4.trans y5
    refine hK.out _ _ (KF.out _ E5) ?_
    clear hK K
    (try simp only [Act.put, List.setIfInBounds_toArray, List.set_cons_zero, List.set_cons_succ])
    refine plan_call (fun K hK => ?_)
    go_simp
    go_at_call 18; refine (sameBytes_any _ b1 b2 B1 B2 s.M.length _ (r1.ext y5) r2 HG.out.2.2.m_le).mono ?_; rintro en v6 ⟨rfl, j6, rfl⟩; have y6 : Ext v5 (v5.drewN j6) := Mod.drewN (Mod.refl _ _) j6; have E6 : Ext w (v5.drewN j6) := E5.trans y6
    refine hK.out _ _ (KF.out _ E6) ?_
    clear hK K
    (try simp only [Act.put, List.setIfInBounds_toArray, List.set_cons_zero, List.set_cons_succ])
    iterate 4 (refine plan_take (v := ?_) (by rfl) (fun wS hS => ?_) ?_; rotate_left; (focus ((try dsimp only at hS); go_simp; (try with_reducible rfl); done)); (try simp only [Act.put, List.setIfInBounds_toArray, List.set_cons_zero, List.set_cons_succ]))
    refine plan_call (fun K hK => ?_)
    go_simp
    go_at_call 20; refine (shfinal_at HG.out.1 (KH.out _ E6).1).mono ?_; rintro en v7 ⟨b3, B3, rfl, r3, y7⟩; have E7 : Ext w v7 := E6.trans y7
    refine hK.out _ _ (KF.out _ E7) ?_
    clear hK K
    (try simp only [Act.put, List.setIfInBounds_toArray, List.set_cons_zero, List.set_cons_succ])
    refine plan_call (fun K hK => ?_)
    go_simp
    go_at_call 63; refine (rsfinal_at HG.out.2.1 (KH.out _ E7).2).mono ?_; rintro en v8 ⟨b4, B4, rfl, r4, y8⟩; have E8 : Ext w v8 := E7.trans y8
    refine hK.out _ _ (KF.out _ E8) ?_
    clear hK K
    (try simp only [Act.put, List.setIfInBounds_toArray, List.set_cons_zero, List.set_cons_succ])
    refine plan_call (fun K hK => ?_)
    go_simp
    go_at_call 18; refine (sameBytes_any _ b3 b4 B3 B4 (shFin s s.n).M.length _ (r3.ext y8) r4 HFM.out).mono ?_; rintro en v9 ⟨rfl, j9, rfl⟩; have y9 : Ext v8 (v8.drewN j9) := Mod.drewN (Mod.refl _ _) j9; have E9 : Ext w (v8.drewN j9) := E8.trans y9
    refine hK.out _ _ (KF.out _ E9) ?_
    clear hK K
    (try simp only [Act.put, List.setIfInBounds_toArray, List.set_cons_zero, List.set_cons_succ])
    iterate 2 (refine plan_take (v := ?_) (by rfl) (fun wS hS => ?_) ?_; rotate_left; (focus ((try dsimp only at hS); go_simp; (try with_reducible rfl); done)); (try simp only [Act.put, List.setIfInBounds_toArray, List.set_cons_zero, List.set_cons_succ]))
    refine plan_nil ?_
    go_wp2_with fail
    go_ret
    exact ⟨rfl, E9⟩
end Go.Proofs.YtbhocahmhmafmaaGreat
namespace Go.Proofs.YtbhocahmhmafmaaGreat
open Go.Ren Go.RowKit
set_option linter.unusedVariables false
theorem RsTo.pre {z : RsV} {s s' : Shm} {w w0 w' : World} (x : Ext w w0) (h : RsTo z s s' w0 w') : RsTo z s s' w w' := RsTo.trans (z := z) rfl (x.mod _) (fun k hk => .inl hk) h
set_option maxRecDepth 100000 in
set_option maxHeartbeats 1600000 in
theorem want_any (w : World) (z : RsV) (s : Shm) (h : RsIn w z s) (o : Op20) (v : Value) (ho : Op20In w o v) :
 Calls Tryz.prog 13 #[ptr z.g, o20V o v] w (RsPost z s (shAct s o) w) := by
 have k1 := Sl.cells_eq ho.fr.sl
 have t1 := Sl.run_st (P := Tryz.prog) ho.fr.sl
 have HI0 := Lib.hid ho
 obtain ⟨kd, ag, bl, pa, sz, op, sq, nt, wd, wt, fr⟩ := o
 simp only [o20V] at k1 t1 ⊢
 obtain ⟨w0, hw0⟩ : ∃ w0, w0 = w.alloc (.cells #[.int .i64 kd, .int .i64 ag, .int .i64 bl, .int .i64 pa, .int .i64 sz, .int .i64 op, .bool sq, .bool nt, .int .u64 (wd : Int), .int .u64 (wt : Int), v] 35) := ⟨_, rfl⟩
 obtain ⟨g, hg⟩ : ∃ g, g = w.heap.size := ⟨_, rfl⟩
 have x0 : Ext w w0 := by rw [hw0]; exact (Mod.refl _ _).alloc _
 have h0 : w0.heap[g]? = some (.cells #[.int .i64 kd, .int .i64 ag, .int .i64 bl, .int .i64 pa, .int .i64 sz, .int .i64 op, .bool sq, .bool nt, .int .u64 (wd : Int), .int .u64 (wt : Int), v] 35 (0, 0)) := by rw [hw0, hg]; exact heap_alloc_new _ _
 have c0 : w0.cell? ⟨g, 0, none⟩ = some (.int .i64 kd) := by simp [World.cell?, h0]
 have c1 : w0.cell? ⟨g, 1, none⟩ = some (.int .i64 ag) := by simp [World.cell?, h0]
 have c2 : w0.cell? ⟨g, 2, none⟩ = some (.int .i64 bl) := by simp [World.cell?, h0]
 have c3 : w0.cell? ⟨g, 3, none⟩ = some (.int .i64 pa) := by simp [World.cell?, h0]
 have c4 : w0.cell? ⟨g, 4, none⟩ = some (.int .i64 sz) := by simp [World.cell?, h0]
 have c5 : w0.cell? ⟨g, 5, none⟩ = some (.int .i64 op) := by simp [World.cell?, h0]
 have c6 : w0.cell? ⟨g, 6, none⟩ = some (.bool sq) := by simp [World.cell?, h0]
 have c7 : w0.cell? ⟨g, 7, none⟩ = some (.bool nt) := by simp [World.cell?, h0]
 have c8 : w0.cell? ⟨g, 8, none⟩ = some (.int .u64 (wd : Int)) := by simp [World.cell?, h0]
 have c9 : w0.cell? ⟨g, 9, none⟩ = some (.int .u64 (wt : Int)) := by simp [World.cell?, h0]
 have c10 : w0.cell? ⟨g, 10, none⟩ = some v := by simp [World.cell?, h0]
 have HS := Lib.hid (h.ext x0)
 have HI := Lib.hid (HI0.out.ext x0)
 have HW := Lib.hid (And.intro hw0 (And.intro hg x0))
 clear hw0 hg x0 h0 h ho HI0
 rcases (by omega : kd = 0 ∨ kd = 1 ∨ kd = 2 ∨ kd = 3 ∨ kd = 4 ∨ kd = 5 ∨ kd = 6 ∨ kd = 7 ∨ (kd < 0 ∨ 7 < kd)) with rfl | rfl | rfl | rfl | rfl | rfl | rfl | rfl | hk
 · have HE : Hid (shAct s ⟨0, ag, bl, pa, sz, op, sq, nt, wd, wt, fr⟩ = shLoad s ag bl pa sz sq nt) := Lib.hid rfl
   rw [HE.out]
   go_enter Tryz.func13, Tryz.ntmps13
   go_upto_region 1 with fail
   rw [← HW.out.1, ← HW.out.2.1]
   go_wp2_with fail
   refine (rsload_any _ z s HS.out ag bl pa sz sq nt).mono ?_
   rintro e w' ⟨rfl, P⟩
   have HP := Lib.hid P
   clear P
   go_wp2_with fail
   go_ret2
   exact ⟨rfl, RsTo.pre HW.out.2.2 HP.out⟩
 · have HE : Hid (shAct s ⟨1, ag, bl, pa, sz, op, sq, nt, wd, wt, fr⟩ = ((0, (shStore s ag bl pa sz wd sq nt).1), (shStore s ag bl pa sz wd sq nt).2)) := Lib.hid rfl
   rw [HE.out]
   go_enter Tryz.func13, Tryz.ntmps13
   go_upto_region 1 with fail
   rw [← HW.out.1, ← HW.out.2.1]
   go_wp2_with fail
   refine (rsstore_any _ z s HS.out ag bl pa sz wd HI.out.w1 sq nt).mono ?_
   rintro e w' ⟨rfl, P⟩
   have HP := Lib.hid P
   clear P
   go_wp2_with fail
   go_ret2
   exact ⟨rfl, RsTo.pre HW.out.2.2 HP.out⟩
 · have HE : Hid (shAct s ⟨2, ag, bl, pa, sz, op, sq, nt, wd, wt, fr⟩ = shChange s ag bl pa sz op wd) := Lib.hid rfl
   rw [HE.out]
   go_enter Tryz.func13, Tryz.ntmps13
   go_upto_region 1 with fail
   rw [← HW.out.1, ← HW.out.2.1]
   go_wp2_with fail
   refine (rschange_any _ z s HS.out ag bl pa sz op wd HI.out.w1).mono ?_
   rintro e w' ⟨rfl, P⟩
   have HP := Lib.hid P
   clear P
   go_wp2_with fail
   go_ret2
   exact ⟨rfl, RsTo.pre HW.out.2.2 HP.out⟩
 · have HE : Hid (shAct s ⟨3, ag, bl, pa, sz, op, sq, nt, wd, wt, fr⟩ = shSwap s ag bl pa sz wt wd) := Lib.hid rfl
   rw [HE.out]
   go_enter Tryz.func13, Tryz.ntmps13
   go_upto_region 1 with fail
   rw [← HW.out.1, ← HW.out.2.1]
   go_wp2_with fail
   refine (rsswap_any _ z s HS.out ag bl pa sz wt wd HI.out.w2 HI.out.w1).mono ?_
   rintro e w' ⟨rfl, P⟩
   have HP := Lib.hid P
   clear P
   go_wp2_with fail
   go_ret2
   exact ⟨rfl, RsTo.pre HW.out.2.2 HP.out⟩
 · have HE : Hid (shAct s ⟨4, ag, bl, pa, sz, op, sq, nt, wd, wt, fr⟩ = shSync s ag fr) := Lib.hid rfl
   rw [HE.out]
   have HU : Hid (IntKind.u64.wrap ((shSync s ag fr).1.1 : Int) = ((shSync s ag fr).1.1 : Int)) := Lib.hid (sync_u64 HS.out.ok ag fr)
   go_enter Tryz.func13, Tryz.ntmps13
   go_upto_region 1 with fail
   rw [← HW.out.1, ← HW.out.2.1]
   go_wp2_with fail
   refine (rssync_any _ z s HS.out ag v fr HI.out.fr HI.out.far).mono ?_
   rintro e w' ⟨rfl, P⟩
   have HP := Lib.hid P
   clear P
   obtain ⟨R, hR⟩ : ∃ R, R = (shSync s ag fr).1.1 := ⟨_, rfl⟩
   have HR := Lib.hid hR
   have hu : IntKind.u64.wrap (R : Int) = (R : Int) := by rw [hR]; exact HU.out
   rw [← hR]
   clear hR
   go_wp2_with fail
   go_ret2
   exact ⟨by have e := HR.out; subst e; rfl, RsTo.pre HW.out.2.2 HP.out⟩
 · have HE : Hid (shAct s ⟨5, ag, bl, pa, sz, op, sq, nt, wd, wt, fr⟩ = (((shFl s ag).1.toNat, 0), (shFl s ag).2)) := Lib.hid rfl
   rw [HE.out]
   go_enter Tryz.func13, Tryz.ntmps13
   go_upto_region 1 with fail
   rw [← HW.out.1, ← HW.out.2.1]
   go_wp2_with fail
   refine (rsflush_any _ z s HS.out ag).mono ?_
   rintro e w' ⟨rfl, P⟩
   have HP := Lib.hid P
   clear P
   go_wp2_with fail
   refine (flag_any _ _).mono ?_
   rintro e w9 ⟨rfl, rfl⟩
   go_wp2_with fail
   go_ret2
   exact ⟨rfl, RsTo.pre HW.out.2.2 HP.out⟩
 · have HE : Hid (shAct s ⟨6, ag, bl, pa, sz, op, sq, nt, wd, wt, fr⟩ = (((shTr s ag).1.toNat, 0), (shTr s ag).2)) := Lib.hid rfl
   rw [HE.out]
   go_enter Tryz.func13, Tryz.ntmps13
   go_upto_region 1 with fail
   rw [← HW.out.1, ← HW.out.2.1]
   go_wp2_with fail
   refine (rstear_any _ z s HS.out ag).mono ?_
   rintro e w' ⟨rfl, P⟩
   have HP := Lib.hid P
   clear P
   go_wp2_with fail
   refine (flag_any _ _).mono ?_
   rintro e w9 ⟨rfl, rfl⟩
   go_wp2_with fail
   go_ret2
   exact ⟨rfl, RsTo.pre HW.out.2.2 HP.out⟩
 · have HE : Hid (shAct s ⟨7, ag, bl, pa, sz, op, sq, nt, wd, wt, fr⟩ = shMake s sz) := Lib.hid rfl
   rw [HE.out]
   have HU : Hid (IntKind.u64.wrap ((shMake s sz).1.1 : Int) = ((shMake s sz).1.1 : Int)) := Lib.hid (make_u64 HS.out.ok sz)
   go_enter Tryz.func13, Tryz.ntmps13
   go_upto_region 1 with fail
   rw [← HW.out.1, ← HW.out.2.1]
   go_wp2_with fail
   refine (rsmake_any _ z s HS.out sz).mono ?_
   rintro e w' ⟨rfl, P⟩
   have HP := Lib.hid P
   clear P
   obtain ⟨R, hR⟩ : ∃ R, R = (shMake s sz).1.1 := ⟨_, rfl⟩
   have HR := Lib.hid hR
   have hu : IntKind.u64.wrap (R : Int) = (R : Int) := by rw [hR]; exact HU.out
   rw [← hR]
   clear hR
   go_wp2_with fail
   go_ret2
   exact ⟨by have e := HR.out; subst e; rfl, RsTo.pre HW.out.2.2 HP.out⟩
 · have HE : Hid (shAct s ⟨kd, ag, bl, pa, sz, op, sq, nt, wd, wt, fr⟩ = ((0, 0), s)) := Lib.hid (by unfold shAct; simp only []; rw [if_neg (by omega), if_neg (by omega), if_neg (by omega), if_neg (by omega), if_neg (by omega), if_neg (by omega), if_neg (by omega), if_neg (by omega)])
   rw [HE.out]
   have n0 : (kd == 0) = false := by simp; omega
   have n1 : (kd == 1) = false := by simp; omega
   have n2 : (kd == 2) = false := by simp; omega
   have n3 : (kd == 3) = false := by simp; omega
   have n4 : (kd == 4) = false := by simp; omega
   have n5 : (kd == 5) = false := by simp; omega
   have n6 : (kd == 6) = false := by simp; omega
   have n7 : (kd == 7) = false := by simp; omega
   clear hk
   go_enter Tryz.func13, Tryz.ntmps13
   go_upto_region 1 with fail
   rw [← HW.out.1, ← HW.out.2.1]
   go_wp2_with fail
   go_ret2
   exact ⟨rfl, RsTo.pre HW.out.2.2 (HS.out.to (Mod.refl _ _))⟩
end Go.Proofs.YtbhocahmhmafmaaGreat
namespace Go.Proofs.YtbhocahmhmafmaaGreat
open Go.Ren Go.RowKit
set_option linter.unusedVariables false
structure BothSh (w0 w : World) (gs gx : Nat) (s t : Shm) : Prop where
 ex : ∃ (z : ShV) (y : RsV), gs = z.g ∧ gx = y.g ∧ ShIn w z s ∧ RsIn w y t ∧ (∀ k, z.Fp s k → w0.heap.size ≤ k) ∧ (∀ k, y.Fp t k → w0.heap.size ≤ k) ∧ ∀ k, z.Fp s k → ¬ y.Fp t k
 x : Ext w0 w
structure ThreeSh (w0 w : World) (gs gc gx : Nat) (s t : Shm) : Prop where
 ex : ∃ (z zc : ShV) (y : RsV), gs = z.g ∧ gc = zc.g ∧ gx = y.g ∧ ShIn w z s ∧ ShIn w zc s ∧ RsIn w y t ∧ (∀ k, z.Fp s k → w0.heap.size ≤ k) ∧ (∀ k, zc.Fp s k → w0.heap.size ≤ k) ∧ (∀ k, y.Fp t k → w0.heap.size ≤ k) ∧
  (∀ k, z.Fp s k → ¬ y.Fp t k) ∧ (∀ k, zc.Fp s k → ¬ y.Fp t k) ∧ ∀ k, zc.Fp s k → ¬ z.Fp s k
 x : Ext w0 w
theorem BothSh.ext {w0 w w' : World} {gs gx : Nat} {s t : Shm} (h : BothSh w0 w gs gx s t) (u : Ext w w') : BothSh w0 w' gs gx s t := by
 obtain ⟨⟨z, y, e1, e2, h1, h2, f1, f2, d⟩, x⟩ := h
 exact ⟨⟨z, y, e1, e2, h1.ext u, h2.ext u, f1, f2, d⟩, x.trans u⟩
section
variable {w0 w : World} {gs gx : Nat} {s t : Shm} (h : BothSh w0 w gs gx s t)
include h
theorem BothSh.act (o : Op20) (v : Value) (ho : Op20In w o v) : Calls Tryz.prog 12 #[ptr gs, o20V o v] w fun e w' => e = .returned (.tuple #[.int .u64 ((shAct s o).1.1 : Int), .int .i64 (shAct s o).1.2]) ∧ BothSh w0 w' gs gx (shAct s o).2 t := by
 obtain ⟨⟨z, y, rfl, rfl, h1, h2, f1, f2, d⟩, x⟩ := h
 exact (act_any w z s h1 o v ho).mono fun e w' hh => ⟨hh.1, by
  obtain ⟨z', e', h', m, f⟩ := hh.2
  exact ⟨⟨z', y, e'.symm, rfl, h', h2.mod m (fun k hk hz => d k hz hk), fun k hk => (f k hk).elim (f1 k) (fun hl => Nat.le_trans x.size hl), f2, fun k hk hy => (f k hk).elim (fun h3 => d k h3 hy) (fun h3 => by have := h2.lt hy; omega)⟩, x.trans' m (fun q hq => .inr (f1 q hq))⟩⟩
theorem BothSh.want (o : Op20) (v : Value) (ho : Op20In w o v) : Calls Tryz.prog 13 #[ptr gx, o20V o v] w fun e w' => e = .returned (.tuple #[.int .u64 ((shAct t o).1.1 : Int), .int .i64 (shAct t o).1.2]) ∧ BothSh w0 w' gs gx s (shAct t o).2 := by
 obtain ⟨⟨z, y, rfl, rfl, h1, h2, f1, f2, d⟩, x⟩ := h
 exact (want_any w y t h2 o v ho).mono fun e w' hh => ⟨hh.1, by
  obtain ⟨y', e', h', m, f⟩ := hh.2
  exact ⟨⟨z, y', rfl, e'.symm, h1.mod m (fun k hk hz => d k hk hz), h', f1, fun k hk => (f k hk).elim (f2 k) (fun hl => Nat.le_trans x.size hl), fun k hk hy => (f k hy).elim (fun h3 => d k hk h3) (fun h3 => by have := h1.lt hk; omega)⟩, x.trans' m (fun q hq => .inr (f2 q hq))⟩⟩
theorem BothSh.copy : Calls Tryz.prog 10 #[ptr gs] w fun e w' => ∃ gc, e = .returned (ptr gc) ∧ ThreeSh w0 w' gs gc gx s t := by
 obtain ⟨⟨z, y, rfl, rfl, h1, h2, f1, f2, d⟩, x⟩ := h
 exact (shcopy_any w z s h1).mono fun e w' ⟨zc, e1, h3, u, f3⟩ => ⟨zc.g, e1, ⟨z, zc, y, rfl, rfl, rfl, h1.ext u, h3, h2.ext u, f1, fun k hk => Nat.le_trans x.size (f3 k hk), f2, d, fun k hk hy => by have := f3 k hk; have := h2.lt hy; omega, fun k hk hy => by have := f3 k hk; have := h1.lt hy; omega⟩, x.trans u⟩
theorem BothSh.same (e : s = t) : Calls Tryz.prog 14 #[ptr gs, ptr gx] w fun e w' => e = .returned (.bool true) ∧ Ext w w' := by
 obtain ⟨⟨z, y, rfl, rfl, h1, h2, f1, f2, d⟩, x⟩ := h
 subst e
 exact rssame_any w z y s h1 h2
end
theorem ThreeSh.store {w0 w : World} {gs gc gx : Nat} {s t : Shm} (h : ThreeSh w0 w gs gc gx s t) (ag k pa size : Int) (m : Nat) (hm : m < 18446744073709551616) (seq nt : Bool) :
 Calls Tryz.prog 11 #[ptr gs, .int .i64 ag, .int .i64 k, .int .i64 pa, .int .i64 size, .int .u64 (m : Int), .bool seq, .bool nt] w fun e w' => (∃ r : Int, e = .returned (.int .i64 r)) ∧ BothSh w0 w' gc gx s t := by
 obtain ⟨⟨z, zc, y, rfl, rfl, rfl, h1, h3, h2, f1, f3, f2, d1, d2, d3⟩, x⟩ := h
 exact (shstore_any w z s h1 ag k pa size m hm seq nt).mono fun e w' hh => ⟨⟨_, hh.1⟩, by
  obtain ⟨z', e', h', m, f⟩ := hh.2
  exact ⟨⟨zc, y, rfl, rfl, h3.mod m (fun k hk hz => d3 k hk hz), h2.mod m (fun k hk hz => d1 k hz hk), f3, f2, d2⟩, x.trans' m (fun q hq => .inr (f1 q hq))⟩⟩
theorem BothSh.new {w0 w w' : World} {gs : Nat} {z : RsV} {s t : Shm} (h : FreshSh w0 w gs s) (h1 : RsIn w' z t) (u : Ext w w') (f : ∀ k, z.Fp t k → w.heap.size ≤ k) : BothSh w0 w' gs z.g s t := by
 obtain ⟨⟨y, rfl, h2, f2⟩, x⟩ := h
 exact ⟨⟨y, z, rfl, rfl, h2.ext u, h1, f2, fun k hk => Nat.le_trans x.size (f k hk), fun k hk hz => by have := f k hz; have := h2.lt hk; omega⟩, x.trans u⟩
end Go.Proofs.YtbhocahmhmafmaaGreat
