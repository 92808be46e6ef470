/-
  EventHeads: the walk of renlaw14.EventHeads. No condition.
-/
import Derived.Test.YtkibdabbjbcboaaEvFirst
import Derived.Test.YtkibdabbjbcboaaEvHeadsLaw
namespace Go.Ren
open Go.RowKit
theorem run_minI {P : Program} (a b : Int) (ts : Array TypeId) (ty : TypeId) (w : World) : (Builtin.min_ ts ty #[.int .i64 a, .int .i64 b]).run P w = .ok (.int .i64 (min a b)) w := by
  by_cases h : b < a
  · have e : min a b = b := by omega
    rw [e]; simp [Builtin.min_, Builtin.min2, h]
  · have e : min a b = a := by omega
    rw [e]; simp [Builtin.min_, Builtin.min2, h]
theorem run_maxI {P : Program} (a b : Int) (ts : Array TypeId) (ty : TypeId) (w : World) : (Builtin.max_ ts ty #[.int .i64 a, .int .i64 b]).run P w = .ok (.int .i64 (max a b)) w := by
  by_cases h : a < b
  · have e : max a b = b := by omega
    rw [e]; simp [Builtin.max_, Builtin.max2, h]
  · have e : max a b = a := by omega
    rw [e]; simp [Builtin.max_, Builtin.max2, h]
end Go.Ren
namespace Go.Proofs.Ytkibdabbjbcboaa
open Go.Ren Go.RowKit
set_option linter.unusedVariables false

theorem head_in {w w' : World} {ve vp hv pv : Value} {V V' : Nat → Vs} {L : Lg} {n : Int} (h : LogIn w ve vp V L) (o : LogOwn w' hv pv V' (headL L n)) : LogIn w' hv pv V' (headL L n) :=
  o.in_ (fun i hi => by rw [head_evn hi]; rw [head_evlen] at hi; exact (h.ev i (by have := headN_le L n; omega)).ok) (fun i hi => by obtain ⟨j, hj, e⟩ := head_prmem hi; rw [e]; exact h.pok j hj)

theorem i64_len {w : World} {v : Value} {sz n : Nat} {xs : List Value} (h : Sl w v sz n xs) : I64 (n : Int) := by
  obtain ⟨_, c, _, h1, h2, _⟩ := h.shape
  simp only [maxLen] at h2
  unfold I64; omega
theorem i64_min {a b : Int} (h1 : I64 a) (h2 : I64 b) : I64 (min a b) := by unfold I64 at *; omega

set_option maxRecDepth 100000 in
set_option maxHeartbeats 1600000 in
theorem heads_all (w : World) (ve vp : Value) (V : Nat → Vs) (L : Lg) (h : LogIn w ve vp V L) (n m : Int) (hn : I64 n) (hm : I64 m) :
    Calls Try.prog 9 #[.agg #[ve, vp], .int .i64 n, .int .i64 m] w (FPost true w) := by
  have q1 := Sl.cells_eq h.row
  have q2 := Sl.cells_eq h.prow
  have s1 := Sl.run_st (P := Try.prog) h.row
  have s2 := Sl.run_st (P := Try.prog) h.prow
  obtain ⟨w0, hw0⟩ : ∃ w0, w0 = w.alloc (.cells #[ve, vp] 25) := ⟨_, rfl⟩
  obtain ⟨g, hg0⟩ : ∃ g, g = w.heap.size := ⟨_, rfl⟩
  have x0 : Ext w w0 := by rw [hw0]; exact (Mod.refl _ _).alloc _
  have b0 : LogBox w0 g ve vp := ⟨by rw [hw0, hg0]; exact heap_alloc_new _ _⟩
  have HW := Lib.hid (And.intro hw0 (And.intro hg0 x0))
  have KE : Hid (∀ w', Ext w0 w' → LogIn w' ve vp V L ∧ LogBox w' g ve vp) := Lib.hid fun w' x => ⟨h.ext (x0.trans x), b0.ext x⟩
  have HI := Lib.hid (And.intro hn hm)
  clear hw0 hg0 x0 b0 h hn hm
  go_enter Try.func9, Try.ntmps9
  go_upto_region 1 with fail
  rw [← HW.out.1, ← HW.out.2.1]
  clear s1 s2
  go_wp2_with fail
  refine (first14_any _).mono ?_
  rintro e w1 ⟨rfl, x1⟩
  obtain ⟨c0, c1⟩ := (KE.out _ x1).2.cells
  go_wp2_with fail
  refine (few_any _ _ _ V L (KE.out _ x1).1 300 (by decide)).mono ?_
  rintro r w2 ⟨⟨r, rfl, hf⟩, y2⟩
  have X2 : Ext w0 w2 := x1.trans y2
  clear c0 c1
  obtain ⟨c0, c1⟩ := (KE.out _ X2).2.cells
  cases r with
  | false =>
    clear hf
    go_wp2_with fail
    refine (first14_any _).mono ?_
    rintro e w3 ⟨rfl, x3⟩
    go_wp2_with fail
    go_ret
    exact ⟨rfl, (HW.out.2.2.trans X2).trans x3⟩
  | true =>
    have HS : Hid (Small L) := Lib.hid (by obtain ⟨f1, f2, f3⟩ := hf rfl; exact ⟨by omega, by omega, f3⟩)
    clear hf
    go_wp2_with fail
    refine (head_any _ ve vp V L (KE.out _ X2).1 n HI.out.1 HS.out).mono ?_
    rintro r w3 ⟨hv, pv, V3, rfl, o3, y3, -⟩
    have X3 : Ext w0 w3 := X2.trans y3
    have l3 := head_in (KE.out _ X2).1 o3
    have k1 := Sl.cells_eq l3.row
    have k2 := Sl.cells_eq l3.prow
    have t1 := Sl.run_st (P := Try.prog) l3.row
    have t2 := Sl.run_st (P := Try.prog) l3.prow
    have H3 := Lib.hid (And.intro l3 X3)
    clear o3 y3 l3 c0 c1
    go_upto_region 6 with fail
    obtain ⟨w4, hw4⟩ : ∃ w4, w4 = w3.alloc (.cells #[hv, pv] 25) := ⟨_, rfl⟩
    obtain ⟨gh, hgh⟩ : ∃ g, g = w3.heap.size := ⟨_, rfl⟩
    have x4 : Ext w3 w4 := by rw [hw4]; exact (Mod.refl _ _).alloc _
    have b4 : LogBox w4 gh hv pv := ⟨by rw [hw4, hgh]; exact heap_alloc_new _ _⟩
    rw [← hw4, ← hgh]
    have KH : Hid (∀ w', Ext w4 w' → LogIn w' hv pv V3 (headL L n) ∧ LogBox w' gh hv pv ∧ Ext w0 w') := Lib.hid fun w' x => ⟨H3.out.1.ext (x4.trans x), b4.ext x, H3.out.2.trans (x4.trans x)⟩
    clear hw4 hgh x4 b4 t1 t2
    obtain ⟨d0, d1⟩ := (KH.out _ (Mod.refl _ _)).2.1.cells
    go_wp2_with fail
    refine (head_any _ hv pv V3 (headL L n) (KH.out _ (Mod.refl _ _)).1 m HI.out.2 (small_head HS.out n)).mono ?_
    rintro r w5 ⟨kv, qv, V5, rfl, o5, y5, -⟩
    have l5 := head_in (KH.out _ (Mod.refl _ _)).1 o5
    have k3 := Sl.cells_eq l5.row
    have k4 := Sl.cells_eq l5.prow
    have t3 := Sl.run_st (P := Try.prog) l5.row
    have t4 := Sl.run_st (P := Try.prog) l5.prow
    have H5 := Lib.hid (And.intro l5 y5)
    clear o5 y5 l5 d0 d1
    go_upto_region 7 with fail
    obtain ⟨w6, hw6⟩ : ∃ w6, w6 = w5.alloc (.cells #[kv, qv] 25) := ⟨_, rfl⟩
    obtain ⟨gk, hgk⟩ : ∃ g, g = w5.heap.size := ⟨_, rfl⟩
    have x6 : Ext w5 w6 := by rw [hw6]; exact (Mod.refl _ _).alloc _
    have b6 : LogBox w6 gk kv qv := ⟨by rw [hw6, hgk]; exact heap_alloc_new _ _⟩
    rw [← hw6, ← hgk]
    have KL : Hid (∀ w', Ext w6 w' → LogIn w' ve vp V L ∧ LogIn w' hv pv V3 (headL L n) ∧ LogIn w' kv qv V5 (headL (headL L n) m) ∧ Ext w0 w') := Lib.hid fun w' x =>
      have x' := H5.out.2.trans (x6.trans x)
      ⟨(KE.out _ (KH.out _ x').2.2).1, (KH.out _ x').1, H5.out.1.ext (x6.trans x), (KH.out _ x').2.2⟩
    have KF : Hid (∀ w', Ext w6 w' → w'.cell? ⟨g, 0, none⟩ = some ve ∧ w'.cell? ⟨g, 1, none⟩ = some vp ∧ w'.cell? ⟨gh, 0, none⟩ = some hv ∧ w'.cell? ⟨gh, 1, none⟩ = some pv ∧ w'.cell? ⟨gk, 0, none⟩ = some kv ∧ w'.cell? ⟨gk, 1, none⟩ = some qv) := Lib.hid fun w' x =>
      have x' := H5.out.2.trans (x6.trans x)
      ⟨(KE.out _ (KH.out _ x').2.2).2.cells.1, (KE.out _ (KH.out _ x').2.2).2.cells.2, (KH.out _ x').2.1.cells.1, (KH.out _ x').2.1.cells.2, (b6.ext x).cells.1, (b6.ext x).cells.2⟩
    have l1 := (KL.out _ (Mod.refl _ _)).1.row.run_len (P := Try.prog) IEv.und 3
    have l2 := (KL.out _ (Mod.refl _ _)).2.1.row.run_len (P := Try.prog) IEv.und 3
    clear hw6 hgk x6 b6 t3 t4
    obtain ⟨B, hB⟩ : ∃ B, B = mayL L := ⟨_, rfl⟩
    go_cut [42] (fun s42 wr => s42 = .bool false ∧ Ext w6 wr)
    case first =>
      cases B with
      | false =>
        have HB := Lib.hid hB
        clear hB
        refine wp_region_plan [(0, true), (1, false), (2, true), (3, true), (4, false), (5, true), (6, true), (7, true), (8, false), (9, true), (10, true), (11, true), (12, true), (13, true), (14, true), (15, true), (17, true), (16, false), (18, false), (19, true), (20, true), (21, true)] (fun w' => w'.cell? ⟨g, 0, none⟩ = some ve ∧ w'.cell? ⟨g, 1, none⟩ = some vp ∧ w'.cell? ⟨gh, 0, none⟩ = some hv ∧ w'.cell? ⟨gh, 1, none⟩ = some pv ∧ w'.cell? ⟨gk, 0, none⟩ = some kv ∧ w'.cell? ⟨gk, 1, none⟩ = some qv) (by kernel_rfl) (by kernel_rfl) (by kernel_rfl) (fun _ d _ _ _ h => by cases d <;> exact h) (KF.out _ (Mod.drew (Mod.refl _ _))) ?_
        simp only [planL, getO]
        (refine plan_take (v := ?_) (by rfl) (fun wS hS => ?_) ?_; rotate_left; (focus ((try dsimp only at hS); go_simp; (try with_reducible rfl); done)); (try simp only [Act.put, List.setIfInBounds_toArray, List.set_cons_zero, List.set_cons_succ]))
        refine plan_call (fun K hK => ?_)
        go_simp
        go_at_call 27; refine (may_any _ ve vp V L (KL.out _ (Mod.drew (Mod.refl _ _))).1).mono ?_; rintro r w7 ⟨rfl, y7⟩; have E7 : Ext w6 w7 := Mod.trans (Mod.drew (Mod.refl _ _)) y7; rw [← HB.out]
        refine hK.out _ _ (KF.out _ E7) ?_
        clear hK K
        (try simp only [Act.put, List.setIfInBounds_toArray, List.set_cons_zero, List.set_cons_succ])
        (refine plan_take (v := ?_) (by rfl) (fun wS hS => ?_) ?_; rotate_left; (focus ((try dsimp only at hS); go_simp; (try with_reducible rfl); done)); (try simp only [Act.put, List.setIfInBounds_toArray, List.set_cons_zero, List.set_cons_succ]))
        (refine plan_skip (by rfl) ?_; (try simp only [Act.put, List.setIfInBounds_toArray, List.set_cons_zero, List.set_cons_succ]))
        (refine plan_skip (by rfl) ?_; (try simp only [Act.put, List.setIfInBounds_toArray, List.set_cons_zero, List.set_cons_succ]))
        iterate 3 (refine plan_skip (by rfl) ?_; (try simp only [Act.put, List.setIfInBounds_toArray, List.set_cons_zero, List.set_cons_succ]))
        (refine plan_skip (by rfl) ?_; (try simp only [Act.put, List.setIfInBounds_toArray, List.set_cons_zero, List.set_cons_succ]))
        iterate 8 (refine plan_skip (by rfl) ?_; (try simp only [Act.put, List.setIfInBounds_toArray, List.set_cons_zero, List.set_cons_succ]))
        (refine plan_skip (by rfl) ?_; (try simp only [Act.put, List.setIfInBounds_toArray, List.set_cons_zero, List.set_cons_succ]))
        (refine plan_skip (by rfl) ?_; (try simp only [Act.put, List.setIfInBounds_toArray, List.set_cons_zero, List.set_cons_succ]))
        iterate 2 (refine plan_skip (by rfl) ?_; (try simp only [Act.put, List.setIfInBounds_toArray, List.set_cons_zero, List.set_cons_succ]))
        (refine plan_take (v := ?_) (by rfl) (fun wS hS => ?_) ?_; rotate_left; (focus ((try dsimp only at hS); go_simp; (try with_reducible rfl); done)); (try simp only [Act.put, List.setIfInBounds_toArray, List.set_cons_zero, List.set_cons_succ]))
        refine plan_nil ?_
        go_wp2_with fail
        go_meet
        exact ⟨rfl, E7⟩
      | true =>
        have HB := Lib.hid hB
        clear hB
        refine wp_region_plan [(0, true), (1, false), (2, true), (3, true), (4, false), (5, true), (6, true), (7, true), (8, false), (9, true), (10, true), (11, true), (12, true), (13, true), (14, true), (15, true), (17, true), (16, false), (18, false), (19, true), (20, true), (21, true)] (fun w' => w'.cell? ⟨g, 0, none⟩ = some ve ∧ w'.cell? ⟨g, 1, none⟩ = some vp ∧ w'.cell? ⟨gh, 0, none⟩ = some hv ∧ w'.cell? ⟨gh, 1, none⟩ = some pv ∧ w'.cell? ⟨gk, 0, none⟩ = some kv ∧ w'.cell? ⟨gk, 1, none⟩ = some qv) (by kernel_rfl) (by kernel_rfl) (by kernel_rfl) (fun _ d _ _ _ h => by cases d <;> exact h) (KF.out _ (Mod.drew (Mod.refl _ _))) ?_
        simp only [planL, getO]
        (refine plan_take (v := ?_) (by rfl) (fun wS hS => ?_) ?_; rotate_left; (focus ((try dsimp only at hS); go_simp; (try with_reducible rfl); done)); (try simp only [Act.put, List.setIfInBounds_toArray, List.set_cons_zero, List.set_cons_succ]))
        refine plan_call (fun K hK => ?_)
        go_simp
        go_at_call 27; refine (may_any _ ve vp V L (KL.out _ (Mod.drew (Mod.refl _ _))).1).mono ?_; rintro r w7 ⟨rfl, y7⟩; have E7 : Ext w6 w7 := Mod.trans (Mod.drew (Mod.refl _ _)) y7; rw [← HB.out]
        refine hK.out _ _ (KF.out _ E7) ?_
        clear hK K
        (try simp only [Act.put, List.setIfInBounds_toArray, List.set_cons_zero, List.set_cons_succ])
        iterate 2 (refine plan_take (v := ?_) (by rfl) (fun wS hS => ?_) ?_; rotate_left; (focus ((try dsimp only at hS); go_simp; (try with_reducible rfl); done)); (try simp only [Act.put, List.setIfInBounds_toArray, List.set_cons_zero, List.set_cons_succ]))
        refine plan_call (fun K hK => ?_)
        go_simp
        go_at_call 27; refine (may_any _ hv pv V3 (headL L n) (KL.out _ E7).2.1).mono ?_; rintro r w8 ⟨rfl, y8⟩; have E8 : Ext w6 w8 := E7.trans y8; rw [mayL_head HB.out.symm]
        refine hK.out _ _ (KF.out _ E8) ?_
        clear hK K
        (try simp only [Act.put, List.setIfInBounds_toArray, List.set_cons_zero, List.set_cons_succ])
        iterate 3 (refine plan_take (v := ?_) (by rfl) (fun wS hS => ?_) ?_; rotate_left; (focus ((try dsimp only at hS); go_simp; (try with_reducible rfl); done)); (try simp only [Act.put, List.setIfInBounds_toArray, List.set_cons_zero, List.set_cons_succ]))
        refine plan_call (fun K hK => ?_)
        go_simp
        go_at_call 27; refine (may_any _ kv qv V5 (headL (headL L n) m) (KL.out _ E8).2.2.1).mono ?_; rintro r w9 ⟨rfl, y9⟩; have E9 : Ext w6 w9 := E8.trans y9; rw [mayL_head (mayL_head HB.out.symm n)]
        refine hK.out _ _ (KF.out _ E9) ?_
        clear hK K
        (try simp only [Act.put, List.setIfInBounds_toArray, List.set_cons_zero, List.set_cons_succ])
        iterate 8 (refine plan_take (v := ?_) (by rfl) (fun wS hS => ?_) ?_; rotate_left; (focus ((try dsimp only at hS); go_simp; (try with_reducible rfl); done)); (try simp only [Act.put, List.setIfInBounds_toArray, List.set_cons_zero, List.set_cons_succ]))
        refine plan_call (fun K hK => ?_)
        go_simp
        go_at_call 40; refine (head_any _ ve vp V L (KL.out _ E9).1 L.ev.length (i64_len (KL.out _ E9).1.row) HS.out).mono ?_; rintro r wa ⟨av, bv, Va, rfl, oa, ya, -⟩; have Ea : Ext w6 wa := E9.trans ya; have la := head_in (KL.out _ E9).1 oa; rw [head_all HB.out.symm _ (Int.le_refl _)] at la; have HA := Lib.hid la; clear oa la
        refine hK.out _ _ (KF.out _ Ea) ?_
        clear hK K
        (try simp only [Act.put, List.setIfInBounds_toArray, List.set_cons_zero, List.set_cons_succ])
        refine plan_call (fun K hK => ?_)
        go_simp
        go_at_call 44; refine (lsame_any _ av bv ve vp Va V L L HA.out (KL.out _ Ea).1).mono ?_; rintro r wb ⟨rfl, yb⟩; have EA : Ext w6 wb := Ea.trans yb; rw [lgSame_iff.2 rfl]
        refine hK.out _ _ (KF.out _ EA) ?_
        clear hK K
        (try simp only [Act.put, List.setIfInBounds_toArray, List.set_cons_zero, List.set_cons_succ])
        iterate 3 (refine plan_take (v := ?_) (by rfl) (fun wS hS => ?_) ?_; rotate_left; (focus ((try dsimp only at hS); go_simp; (try with_reducible rfl); done)); (try simp only [Act.put, List.setIfInBounds_toArray, List.set_cons_zero, List.set_cons_succ]))
        refine plan_nil ?_
        go_wp2_with fail
        go_meet
        exact ⟨rfl, EA⟩
    case rest =>
      obtain ⟨rfl, hcut⟩ := hcut
      clear hB
      have mn := fun (ty : TypeId) (w : World) => run_minI (P := Try.prog) n m #[3, 3] ty w
      have mx := fun (ty : TypeId) (w : World) => run_maxI (P := Try.prog) n 0 #[3, 3] ty w
      have hle := head_lenle L n
      go_wp2_with fail
      refine wp_region_plan [(0, false), (1, true), (2, true), (3, true), (4, true), (5, true), (6, true), (7, false), (8, false), (9, true), (10, true), (11, true), (12, true), (13, true), (14, true), (15, true), (16, true), (17, true), (18, true)] (fun w' => w'.cell? ⟨g, 0, none⟩ = some ve ∧ w'.cell? ⟨g, 1, none⟩ = some vp ∧ w'.cell? ⟨gh, 0, none⟩ = some hv ∧ w'.cell? ⟨gh, 1, none⟩ = some pv ∧ w'.cell? ⟨gk, 0, none⟩ = some kv ∧ w'.cell? ⟨gk, 1, none⟩ = some qv) (by kernel_rfl) (by kernel_rfl) (by kernel_rfl) (fun _ d _ _ _ h => by cases d <;> exact h) (KF.out _ (Mod.drew hcut)) ?_
      simp only [planL, getO]
      refine plan_call (fun K hK => ?_)
      go_simp
      go_at_call 31; refine (first14_any _).mono ?_; rintro r wc ⟨rfl, yc⟩; have Ec : Ext w6 wc := Mod.trans (Mod.drew hcut) yc
      refine hK.out _ _ (KF.out _ Ec) ?_
      clear hK K
      (try simp only [Act.put, List.setIfInBounds_toArray, List.set_cons_zero, List.set_cons_succ])
      iterate 6 (refine plan_take (v := ?_) (by rfl) (fun wS hS => ?_) ?_; rotate_left; (focus ((try dsimp only at hS); go_simp; (try with_reducible rfl); done)); (try simp only [Act.put, List.setIfInBounds_toArray, List.set_cons_zero, List.set_cons_succ]))
      refine plan_call (fun K hK => ?_)
      go_simp
      go_at_call 40; refine (head_any _ ve vp V L (KL.out _ Ec).1 (min n m) (i64_min HI.out.1 HI.out.2) HS.out).mono ?_; rintro r wd ⟨av, bv, Va, rfl, oa, ya, -⟩; have Ed : Ext w6 wd := Ec.trans ya; have la := head_in (KL.out _ Ec).1 oa; have HA := Lib.hid la; clear oa la
      refine hK.out _ _ (KF.out _ Ed) ?_
      clear hK K
      (try simp only [Act.put, List.setIfInBounds_toArray, List.set_cons_zero, List.set_cons_succ])
      refine plan_call (fun K hK => ?_)
      go_simp
      go_at_call 44; refine (lsame_any _ kv qv av bv V5 Va _ _ (KL.out _ Ed).2.2.1 HA.out).mono ?_; rintro r we ⟨rfl, ye⟩; have EC : Ext w6 we := Ed.trans ye; rw [lgSame_iff.2 (head_head L n m)]
      refine hK.out _ _ (KF.out _ EC) ?_
      clear hK K
      (try simp only [Act.put, List.setIfInBounds_toArray, List.set_cons_zero, List.set_cons_succ])
      iterate 10 (refine plan_take (v := ?_) (by rfl) (fun wS hS => ?_) ?_; rotate_left; (focus ((try dsimp only at hS); go_simp; (try with_reducible rfl); done)); (try simp only [Act.put, List.setIfInBounds_toArray, List.set_cons_zero, List.set_cons_succ]))
      refine plan_nil ?_
      go_wp2_with fail
      go_ret
      exact ⟨rfl, HW.out.2.2.trans (KL.out _ EC).2.2.2⟩
end Go.Proofs.Ytkibdabbjbcboaa
