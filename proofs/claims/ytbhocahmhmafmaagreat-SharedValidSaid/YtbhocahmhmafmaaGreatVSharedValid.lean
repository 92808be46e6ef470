/-
  SharedValid: the walk of renlaw20.SharedValid. No condition.
-/
import Derived.Test.YtbhocahmhmafmaaGreatVShFresh
import Derived.Test.YtbhocahmhmafmaaGreatVShHb
import Derived.Test.YtbhocahmhmafmaaGreatVElemAt
import Derived.Test.YtbhocahmhmafmaaGreatVModAto
import Derived.Test.YtbhocahmhmafmaaGreatVRvCoh
import Derived.Test.YtbhocahmhmafmaaGreatVRvLog
namespace Go.Proofs.YtbhocahmhmafmaaGreat
open Go.Ren Go.RowKit
set_option linter.unusedVariables false
theorem fresh_fromV {w w1 w2 : World} {g : Nat} {s : Shm} (x : Ext w w1) (h : FreshSh w1 w2 g s) : FreshSh w w2 g s := by
 obtain ⟨⟨z, e1, e2, e3⟩, e4⟩ := h
 exact ⟨⟨z, e1, e2, fun k hk => Nat.le_trans x.size (e3 k hk)⟩, x.trans e4⟩
set_option maxRecDepth 100000 in
set_option maxHeartbeats 3200000 in
theorem sharedValid_all (w : World) (n r : Int) (v : Value) (l : List Op20) (hvv : Ops20 w v l) :
 Calls Tryz.prog 5 #[.int .i64 n, .int .i64 r, v] w fun e w' => e = .returned (.bool true) ∧ Ext w w' := by
 have HV := Lib.hid hvv
 clear hvv
 go_enter Tryz.func5, Tryz.ntmps5
 go_wp2_with fail
 refine (first20_any _).mono ?_
 rintro e w1 ⟨rfl, x1⟩
 have H1 := Lib.hid x1
 clear x1
 go_wp2_with fail
 refine (played_any _ n r v l (HV.out.ext H1.out)).mono ?_
 rintro e w2 ⟨hA, hB⟩
 by_cases hc : 1 ≤ n ∧ n ≤ 64 ∧ 0 ≤ r ∧ r ≤ 64
 case neg =>
  obtain ⟨rfl, x2⟩ := hB hc
  have H2 := Lib.hid (H1.out.trans x2)
  clear hA hB x2 hc
  go_wp2_with fail
  refine (first20_any _).mono ?_
  rintro e w9 ⟨rfl, x9⟩
  go_wp2_with fail
  go_ret
  exact ⟨rfl, H2.out.trans x9⟩
 case pos =>
  obtain ⟨g, rfl, h2⟩ := hA hc
  obtain ⟨S, hS⟩ : ∃ S, S = shRun (shTwo n.toNat r.toNat) l := ⟨_, rfl⟩
  have HLAW : Hid (mayL S.L = true ∧ valB S.L (natL S.L) = true) := Lib.hid (by rw [hS]; exact valid_law ⟨by omega, by omega⟩ (by omega) l)
  have HLEN : Hid (l.length ≤ 60 → S.L.ev.length ≤ 60) := Lib.hid (fun h => by rw [hS]; exact run_few l h)
  rw [← hS] at h2
  have H2 : Hid (FreshSh w w2 g S) := Lib.hid (fresh_fromV H1.out h2)
  clear hA hB hc h2 hS
  go_wp2_with fail
  refine (few20_any _ v l (HV.out.ext H2.out.x)).mono ?_
  rintro e w3 ⟨⟨rr, rfl, hfew⟩, x3⟩
  have HP3 := Lib.hid (H2.out.ext x3)
  have HFEW := Lib.hid hfew
  clear x3 hfew
  cases rr with
  | false =>
   go_wp2_with fail
   refine (first20_any _).mono ?_
   rintro e w9 ⟨rfl, x9⟩
   go_wp2_with fail
   go_ret
   exact ⟨rfl, HP3.out.x.trans x9⟩
  | true =>
   have HVL : Hid (mayL S.L = true ∧ valB S.L (natL S.L) = true ∧ S.L.ev.length ≤ 64 ∧ SmL S.L) := Lib.hid ⟨HLAW.out.1, HLAW.out.2, by have := HLEN.out (HFEW.out rfl); omega, fun i hi => by have := HP3.out.ok.ls i hi; omega⟩
   clear HFEW HLAW HLEN
   go_wp2_with fail
   refine (fr_log HP3.out).mono ?_
   rintro e w9 ⟨hv0, pv0, V, rfl, lo, x9, -⟩
   obtain ⟨la1, lc1, hhv, -⟩ := lo.row.sl.shape
   obtain ⟨la2, lc2, hpv, -⟩ := lo.prow.sl.shape
   subst hhv hpv
   go_upto_region 7 with fail
   obtain ⟨ve, hve⟩ : ∃ v, v = Value.slice la1 S.L.ev.length lc1 := ⟨_, rfl⟩
   obtain ⟨vp, hvp⟩ : ∃ v, v = Value.slice la2 S.L.pr.length lc2 := ⟨_, rfl⟩
   rw [← hve, ← hvp] at lo ⊢
   obtain ⟨w10, hw10⟩ : ∃ W, W = w9.alloc (.cells #[ve, vp] 48) := ⟨_, rfl⟩
   obtain ⟨g9, hg9⟩ : ∃ g, g = w9.heap.size := ⟨_, rfl⟩
   have x10 : Ext w9 w10 := by rw [hw10]; exact (Mod.refl _ _).alloc _
   have bx : LogBox w10 g9 ve vp := ⟨by rw [hw10, hg9]; exact heap_alloc_new _ _⟩
   rw [← hw10, ← hg9]
   have li := (log_in lo HP3.out.ok).ext x10
   have KE : Hid (∀ w', Ext w10 w' → LogIn w' ve vp V S.L ∧ LogBox w' g9 ve vp) := Lib.hid fun w' x => ⟨li.ext x, bx.ext x⟩
   have X10 := Lib.hid ((HP3.out.x.trans x9).trans x10)
   obtain ⟨c0, c1⟩ := bx.cells
   have q1 := li.row.cells_eq
   have q2 := li.prow.cells_eq
   clear hve hvp hw10 hg9 x10 bx li lo x9
   go_wp2_with fail
   refine (rlog_any _ ve vp V S.L (KE.out _ (Mod.refl _ _)).1 (by have := HVL.out.2.2.1; omega)).mono ?_
   rintro en w3' ⟨hv, rfl, lh, y3⟩
   have t1 := Sl.cells_eq lh.row
   have t3 := Sl.run_st (P := Tryz.prog) lh.row
   have t4 := Sl.run_st (P := Tryz.prog) lh.prow
   obtain ⟨w4, hw4⟩ : ∃ W, W = w3'.alloc (.cells #[hv, vp] 57) := ⟨_, rfl⟩
   obtain ⟨g4, hg4⟩ : ∃ g, g = w3'.heap.size := ⟨_, rfl⟩
   have x4 : Ext w3' w4 := by rw [hw4]; exact (Mod.refl _ _).alloc _
   have b4 : RLogBox w4 g4 hv vp := ⟨by rw [hw4, hg4]; exact heap_alloc_new _ _⟩
   have HB4 := Lib.hid (And.intro hw4 hg4)
   have HX4 := Lib.hid (y3.trans x4)
   have KX : Hid (∀ w', Ext w4 w' → LogIn w' ve vp V S.L ∧ LogIn w' hv vp V S.L) := Lib.hid fun w' x => ⟨(KE.out _ (HX4.out.trans x)).1, lh.ext (x4.trans x)⟩
   have KF : Hid (∀ w', Ext w4 w' → w'.cell? ⟨g9, 0, none⟩ = some ve ∧ w'.cell? ⟨g9, 1, none⟩ = some vp ∧ w'.cell? ⟨g4, 0, none⟩ = some hv ∧ w'.cell? ⟨g4, 1, none⟩ = some vp) := Lib.hid fun w' x => by
    obtain ⟨a0, a1⟩ := (KE.out _ (HX4.out.trans x)).2.cells
    obtain ⟨a2, a3⟩ := (b4.ext x).cells
    exact ⟨a0, a1, a2, a3⟩
   clear c0 c1 lh hw4 hg4 x4 b4 y3
   go_upto_region 8 with fail
   rw [← HB4.out.1, ← HB4.out.2]
   clear t3 t4
   refine wp_region_plan [(0, false), (1, true), (2, true), (3, false), (4, true), (5, true), (6, true), (7, true), (8, false), (9, false), (10, true), (11, true), (12, true), (13, true), (14, false), (15, false), (16, true), (17, true)] (fun w' => w'.cell? ⟨g9, 0, none⟩ = some ve ∧ w'.cell? ⟨g9, 1, none⟩ = some vp ∧ w'.cell? ⟨g4, 0, none⟩ = some hv ∧ w'.cell? ⟨g4, 1, none⟩ = some vp) (by kernel_rfl) (by kernel_rfl) (by kernel_rfl) (fun _ d _ _ _ h => by cases d <;> exact h) (KF.out _ (Mod.drew (Mod.refl _ _))) ?_
   simp only [planL, getO]
   refine plan_call (fun K hK => ?_)
   go_simp
   go_at_call 6; refine (first20_any _).mono ?_; rintro en v1 ⟨rfl, u1⟩; have U1 : Ext w4 v1 := Mod.trans (Mod.drew (Mod.refl _ _)) u1
   refine hK.out _ _ (KF.out _ U1) ?_
   clear hK K
   (try simp only [Act.put, List.setIfInBounds_toArray, List.set_cons_zero, List.set_cons_succ])
   iterate 2 (refine plan_take (v := ?_) (by rfl) (fun wS hS => ?_) ?_; rotate_left; (focus ((try dsimp only at hS); go_simp; (try with_reducible rfl); done)); (try simp only [Act.put, List.setIfInBounds_toArray, List.set_cons_zero, List.set_cons_succ]))
   refine plan_call (fun K hK => ?_)
   go_simp
   go_at_call 24; refine (may_any _ ve vp V S.L (KX.out _ U1).1).mono ?_; rintro en v2 ⟨rfl, u2⟩; have U2 : Ext w4 v2 := Mod.trans U1 u2; rw [HVL.out.1]
   refine hK.out _ _ (KF.out _ U2) ?_
   clear hK K
   (try simp only [Act.put, List.setIfInBounds_toArray, List.set_cons_zero, List.set_cons_succ])
   iterate 4 (refine plan_take (v := ?_) (by rfl) (fun wS hS => ?_) ?_; rotate_left; (focus ((try dsimp only at hS); go_simp; (try with_reducible rfl); done)); (try simp only [Act.put, List.setIfInBounds_toArray, List.set_cons_zero, List.set_cons_succ]))
   refine plan_call (fun K hK => ?_)
   go_simp
   go_at_call 26; refine (natural_any _ ve vp V S.L (KX.out _ U2).1 HVL.out.2.2.1).mono ?_; rintro en v3 ⟨nv, rfl, n3, u3⟩; have U3 : Ext w4 v3 := Mod.trans U2 u3; have HN3 := Lib.hid n3; clear n3
   refine hK.out _ _ (KF.out _ U3) ?_
   clear hK K
   (try simp only [Act.put, List.setIfInBounds_toArray, List.set_cons_zero, List.set_cons_succ])
   refine plan_call (fun K hK => ?_)
   go_simp
   go_at_call 25; refine (valid_any _ ve vp V S.L (KX.out _ U3).1 HVL.out.2.2.1 nv _ HN3.out).mono ?_; rintro en v4 ⟨rfl, u4⟩; have U4 : Ext w4 v4 := Mod.trans U3 u4; rw [HVL.out.2.1]
   refine hK.out _ _ (KF.out _ U4) ?_
   clear hK K
   (try simp only [Act.put, List.setIfInBounds_toArray, List.set_cons_zero, List.set_cons_succ])
   iterate 4 (refine plan_take (v := ?_) (by rfl) (fun wS hS => ?_) ?_; rotate_left; (focus ((try dsimp only at hS); go_simp; (try with_reducible rfl); done)); (try simp only [Act.put, List.setIfInBounds_toArray, List.set_cons_zero, List.set_cons_succ]))
   refine plan_call (fun K hK => ?_)
   go_simp
   go_at_call 28; refine (rnatural_any _ hv vp V S.L (KX.out _ U4).2 HVL.out.2.2.2 HVL.out.2.2.1).mono ?_; rintro en v5 ⟨nw, rfl, n5, u5⟩; have U5 : Ext w4 v5 := Mod.trans U4 u5; have HN5 := Lib.hid n5; clear n5
   refine hK.out _ _ (KF.out _ U5) ?_
   clear hK K
   (try simp only [Act.put, List.setIfInBounds_toArray, List.set_cons_zero, List.set_cons_succ])
   refine plan_call (fun K hK => ?_)
   go_simp
   go_at_call 27; refine (rvalid_any _ hv vp V S.L (KX.out _ U5).2 HVL.out.2.2.2 HVL.out.2.2.1 nw _ HN5.out).mono ?_; rintro en v6 ⟨rfl, u6⟩; have U6 : Ext w4 v6 := Mod.trans U5 u6; rw [HVL.out.2.1]
   refine hK.out _ _ (KF.out _ U6) ?_
   clear hK K
   (try simp only [Act.put, List.setIfInBounds_toArray, List.set_cons_zero, List.set_cons_succ])
   iterate 2 (refine plan_take (v := ?_) (by rfl) (fun wS hS => ?_) ?_; rotate_left; (focus ((try dsimp only at hS); go_simp; (try with_reducible rfl); done)); (try simp only [Act.put, List.setIfInBounds_toArray, List.set_cons_zero, List.set_cons_succ]))
   refine plan_nil ?_
   go_wp2_with fail
   go_ret
   exact ⟨rfl, (X10.out.trans HX4.out).trans U6⟩
end Go.Proofs.YtbhocahmhmafmaaGreat
