/-
  CellShared: the walk of renlaw21.CellShared. No condition.
-/
import Derived.Test.YtbhocahmhmafmaaMShPlayed
import Derived.Test.YtbhocahmhmafmaaMShView
import Derived.Test.YtbhocahmhmafmaaMCellAtP
namespace Go.Proofs.Ytbhocahmhmafmaa
open Go.Ren Go.RowKit
set_option linter.unusedVariables false
theorem fresh_from21 {w w1 w2 : World} {g : Nat} {s : Shm} (x : Ext w w1) (h : FreshSh w1 w2 g s) : FreshSh w w2 g s := by
  obtain ⟨⟨z, e1, e2, e3⟩, e4⟩ := h
  exact ⟨⟨z, e1, e2, fun k hk => Nat.le_trans x.size (e3 k hk)⟩, x.trans e4⟩
set_option maxRecDepth 100000 in
set_option maxHeartbeats 3200000 in
theorem cellShared_all (w : World) (n r : Int) (v : Value) (l : List Op20) (hv : Ops20 w v l) (blk pos size : Int) (hb : I64 blk) (ha : I64 pos) (hs : I64 size) :
    Calls Try.prog 6 #[.int .i64 n, .int .i64 r, v, .int .i64 blk, .int .i64 pos, .int .i64 size] w fun e w' => e = .returned (.bool true) ∧ Ext w w' := by
  have HBI := Lib.hid (And.intro hb (And.intro ha hs))
  have HV := Lib.hid hv
  clear hv hb ha hs
  go_enter Try.func6, Try.ntmps6
  go_wp2_with fail
  refine (first21_any _).mono ?_
  rintro e w1 ⟨rfl, x1⟩
  have H1 := Lib.hid x1
  clear x1
  go_wp2_with fail
  refine (played_any _ n r v l (HV.out.ext H1.out)).mono ?_
  rintro e w2 ⟨hA, hB⟩
  by_cases hc : 1 ≤ n ∧ n ≤ 64 ∧ 0 ≤ r ∧ r ≤ 64
  case neg =>
    obtain ⟨rfl, x2⟩ := hB hc
    have H2 := Lib.hid (H1.out.trans x2)
    clear hA hB x2 hc
    go_wp2_with fail
    refine (first21_any _).mono ?_
    rintro e w9 ⟨rfl, x9⟩
    go_wp2_with fail
    go_ret
    exact ⟨rfl, H2.out.trans x9⟩
  case pos =>
    obtain ⟨g, rfl, h2⟩ := hA hc
    obtain ⟨S, hS⟩ : ∃ S, S = shRun (shTwo n.toNat r.toNat) l := ⟨_, rfl⟩
    have HC : Hid (repB S.L (ldE blk pos size) = cleanB S.L (ldE blk pos size) ∧ True) := Lib.hid ⟨by rw [hS]; exact cell_law ⟨by omega, by omega⟩ (by omega) l blk pos size, trivial⟩
    rw [← hS] at h2
    have H2 : Hid (FreshSh w w2 g S) := Lib.hid (fresh_from21 H1.out h2)
    clear hA hB hc h2 hS
    go_wp2_with fail
    refine (few20_any _ v l (HV.out.ext H2.out.x)).mono ?_
    rintro e w3 ⟨⟨rr, rfl, hfew⟩, x3⟩
    have HP3 := Lib.hid (H2.out.ext x3)
    clear x3 hfew
    cases rr with
    | false =>
      go_wp2_with fail
      refine (first21_any _).mono ?_
      rintro e w9 ⟨rfl, x9⟩
      go_wp2_with fail
      go_ret
      exact ⟨rfl, HP3.out.x.trans x9⟩
    | true =>
      go_wp2_with fail
      refine (fr_log HP3.out).mono ?_
      rintro e w9 ⟨hv, pv, V, rfl, lo, x9, -⟩
      obtain ⟨la1, lc1, hhv, -⟩ := lo.row.sl.shape
      obtain ⟨la2, lc2, hpv, -⟩ := lo.prow.sl.shape
      subst hhv hpv
      go_upto_region 7 with fail
      obtain ⟨ve, hve⟩ : ∃ v, v = Value.slice la1 S.L.ev.length lc1 := ⟨_, rfl⟩
      obtain ⟨vp, hvp⟩ : ∃ v, v = Value.slice la2 S.L.pr.length lc2 := ⟨_, rfl⟩
      rw [← hve, ← hvp] at lo ⊢
      obtain ⟨w10, hw10⟩ : ∃ W, W = w9.alloc (.cells #[ve, vp] 46) := ⟨_, rfl⟩
      obtain ⟨g9, hg9⟩ : ∃ g, g = w9.heap.size := ⟨_, rfl⟩
      have x10 : Ext w9 w10 := by rw [hw10]; exact (Mod.refl _ _).alloc _
      have bx : LogBox w10 g9 ve vp := ⟨by rw [hw10, hg9]; exact heap_alloc_new _ _⟩
      rw [← hw10, ← hg9]
      have li := (log_in lo HP3.out.ok).ext x10
      have KX : Hid (∀ w', Ext w10 w' → LogIn w' ve vp V S.L) := Lib.hid fun w' x => li.ext x
      have KF : Hid (∀ w', Ext w10 w' → w'.cell? ⟨g9, 0, none⟩ = some ve ∧ w'.cell? ⟨g9, 1, none⟩ = some vp) := Lib.hid fun w' x => (bx.ext x).cells
      have X10 := Lib.hid ((HP3.out.x.trans x9).trans x10)
      obtain ⟨C, hC⟩ : ∃ C, C = cleanB S.L (ldE blk pos size) := ⟨_, rfl⟩
      have HC : Hid (repB S.L (ldE blk pos size) = C ∧ cleanB S.L (ldE blk pos size) = C) := Lib.hid ⟨by rw [hC]; exact HC.out.1, hC.symm⟩
      have q1 := li.row.cells_eq
      clear hve hvp hw10 hg9 x10 bx li lo x9 hC
      refine wp_region_plan [(0, false), (1, true), (2, true), (3, true), (4, true), (5, true), (7, true), (8, true), (9, true), (10, true), (6, false), (11, false), (12, true), (13, true), (14, true)] (fun w' => w'.cell? ⟨g9, 0, none⟩ = some ve ∧ w'.cell? ⟨g9, 1, none⟩ = some vp) (by kernel_rfl) (by kernel_rfl) (by kernel_rfl) (fun _ d _ _ _ h => by cases d <;> exact h) (KF.out _ (Mod.drew (Mod.refl _ _))) ?_
      simp only [planL, getO]
      refine plan_call (fun K hK => ?_)
      go_simp
      go_at_call 23; refine (first21_any _).mono ?_; rintro en v1 ⟨rfl, u1⟩; have U1 : Ext w10 v1 := Mod.trans (Mod.drew (Mod.refl _ _)) u1
      refine hK.out _ _ (KF.out _ U1) ?_
      clear hK K
      (try simp only [Act.put, List.setIfInBounds_toArray, List.set_cons_zero, List.set_cons_succ])
      iterate 9 (refine plan_take (v := ?_) (by rfl) (fun wS hS => ?_) ?_; rotate_left; (focus ((try dsimp only at hS); go_simp; (try with_reducible rfl); done)); (try simp only [Act.put, List.setIfInBounds_toArray, List.set_cons_zero, List.set_cons_succ]))
      refine plan_call (fun K hK => ?_)
      go_simp
      go_at_call 24; refine (replay_any _ ve vp V S.L (KX.out _ U1) blk pos size HBI.out.1 HBI.out.2.1 HBI.out.2.2).mono ?_; rintro en v2 ⟨rfl, u2⟩; have U2 : Ext w10 v2 := Mod.trans U1 u2; rw [HC.out.1]
      refine hK.out _ _ (KF.out _ U2) ?_
      clear hK K
      (try simp only [Act.put, List.setIfInBounds_toArray, List.set_cons_zero, List.set_cons_succ])
      refine plan_call (fun K hK => ?_)
      go_simp
      go_at_call 25; refine (clean_any _ ve vp V S.L (KX.out _ U2) blk pos size HBI.out.1 HBI.out.2.1 HBI.out.2.2).mono ?_; rintro en v3 ⟨rfl, u3⟩; have U3 : Ext w10 v3 := Mod.trans U2 u3; rw [HC.out.2]
      refine hK.out _ _ (KF.out _ U3) ?_
      clear hK K
      (try simp only [Act.put, List.setIfInBounds_toArray, List.set_cons_zero, List.set_cons_succ])
      iterate 3 (refine plan_take (v := ?_) (by rfl) (fun wS hS => ?_) ?_; rotate_left; (focus ((try dsimp only at hS); go_simp; (try with_reducible rfl); done)); (try simp only [Act.put, List.setIfInBounds_toArray, List.set_cons_zero, List.set_cons_succ]))
      refine plan_nil ?_
      go_wp2_with fail
      go_ret
      exact ⟨rfl, X10.out.trans U3⟩
end Go.Proofs.Ytbhocahmhmafmaa
