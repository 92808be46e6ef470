/-
  The contracts of model.writes, model.hidden, model.Coherent. No condition. The contract of model.Coherent. No condition.
-/
import Derived.Test.YtbhocahmhmafmaaGreatVRelTool
import Derived.WalkMore
namespace Go.Proofs.YtbhocahmhmafmaaGreat
open Go.Ren Go.RowKit
set_option linter.unusedVariables false
def NumPost (r : Int) (w : World) (e : Ending) (w' : World) : Prop := e = .returned (.int .i64 r) ∧ Ext w w'
set_option maxRecDepth 100000 in
theorem mwrites_any (w : World) (e : Ev) (v : Vs) (h : EvAt w e v) (b a : Int) (ha : I64 a) :
 Calls Tryz.prog 160 #[evV e v, .int .i64 b, .int .i64 a] w (FPost (wrsB e && evCov e b a) w) := by
 obtain ⟨k1, k2, k3, t1, t2, t3⟩ := ev_facts h
 obtain ⟨w0, hw0⟩ : ∃ w0, w0 = w.alloc (.cells (evArr e v) 70) := ⟨_, rfl⟩
 obtain ⟨g, hg⟩ : ∃ g, g = w.heap.size := ⟨_, rfl⟩
 have x0 : Ext w w0 := by rw [hw0]; exact (Mod.refl _ _).alloc _
 have b0 : EvBox w0 g e v := by rw [hw0, hg]; exact EvBox.of w e v
 have HW := Lib.hid (And.intro hw0 (And.intro hg x0))
 have KE : Hid (∀ w', Ext w0 w' → EvBox w' g e v ∧ EvAt w' e v) := Lib.hid fun w' x => ⟨b0.ext x, h.ext (x0.trans x)⟩
 have HA := Lib.hid ha
 obtain ⟨c0, c1, c2, c3, c4, c5, c6, c7, c8, c9⟩ := b0.cells
 obtain ⟨Q, hQ⟩ : ∃ Q, Q = wrsB e := ⟨_, rfl⟩
 rw [← hQ]
 have HQ := Lib.hid hQ.symm
 clear hw0 hg x0 b0 h ha hQ
 unfold evV
 go_enter Tryz.func160, Tryz.ntmps160
 go_upto_region 1 with fail
 rw [← HW.out.1, ← HW.out.2.1]
 clear t1 t2 t3
 go_wp2_with fail
 refine (writes_any _ e v (KE.out _ (Mod.refl _ _)).2).mono ?_
 rintro en w1 ⟨rfl, y1⟩
 rw [HQ.out]
 clear c0 c1 c2 c3 c4 c5 c6 c7 c8 c9
 obtain ⟨c0, c1, c2, c3, c4, c5, c6, c7, c8, c9⟩ := (KE.out _ y1).1.cells
 cases Q with
 | false =>
  go_wp2_with fail
  go_ret
  exact ⟨rfl, HW.out.2.2.trans y1⟩
 | true =>
  go_wp2_with fail
  refine (covers_any _ e v (KE.out _ y1).2 b a HA.out).mono ?_
  rintro en w2 ⟨rfl, y2⟩
  go_wp2_with fail
  go_ret
  exact ⟨rfl, (HW.out.2.2.trans y1).trans y2⟩
set_option maxRecDepth 100000 in
set_option maxHeartbeats 1600000 in
theorem hidden_any (w : World) (ve vp : Value) (V : Nat → Vs) (L : Lg) (h : LogIn w ve vp V L) (hl : L.ev.length ≤ 64) (p : Value) (hr : RelIs w p L.ev.length (hbB L)) (r : Nat) (hrl : r < L.ev.length) (x a : Int) (ha : I64 a) :
 Calls Tryz.prog 135 #[.agg #[ve, vp], p, .int .i64 (r : Int), .int .i64 x, .int .i64 a] w (FPost (hidB L r x a) w) := by
 have HAI := Lib.hid ha
 have hle : (L.ev.length : Int) ≤ 64 := by omega
 obtain ⟨bk, hbk⟩ : ∃ b, b = (evn L.ev r).blk := ⟨_, rfl⟩
 obtain ⟨A1, hA1⟩ : ∃ A, A = at_ ve (r * 10) := ⟨_, rfl⟩
 have iR := h.row.run_idx (P := Tryz.prog) IEv.und IEv.size .i64 r hrl
 rw [← hA1] at iR
 have HBK : Hid (∀ w', LogIn w' ve vp V L → w'.cell? ⟨A1.block, A1.off + 4, none⟩ = some (.int .i64 bk)) := Lib.hid fun w' h' => by have := (h'.cells hrl).2.2.2.2.1; rw [← hA1, ← hbk] at this; exact this
 obtain ⟨B, hB⟩ : ∃ B, B = hidB L r x a := ⟨_, rfl⟩
 rw [← hB]
 have HB := Lib.hid hB
 have HP : Hid (∀ k, hidP L r x a k = (wrsB (evn L.ev k) && evCov (evn L.ev k) bk a && hbB L k r && (decide (x < 0) || hasB L.ev.length (hbB L) x k))) := Lib.hid fun k => by rw [hbk]; rfl
 have hrl' := hrl
 have HR0 := Lib.hid hr
 clear ha hl hbk hA1 hB hr
 have q1 := Sl.cells_eq h.row
 have q2 := Sl.cells_eq h.prow
 have s1 := Sl.run_st (P := Tryz.prog) h.row
 have s2 := Sl.run_st (P := Tryz.prog) h.prow
 obtain ⟨w0, hw0⟩ : ∃ w0, w0 = w.alloc (.cells #[ve, vp] 48) := ⟨_, rfl⟩
 obtain ⟨g0, hg0⟩ : ∃ g, g = w.heap.size := ⟨_, rfl⟩
 have x0 : Ext w w0 := by rw [hw0]; exact (Mod.refl _ _).alloc _
 have b0 : LogBox w0 g0 ve vp := ⟨by rw [hw0, hg0]; exact heap_alloc_new _ _⟩
 have HW := Lib.hid (And.intro hw0 (And.intro hg0 x0))
 have KE : Hid (∀ w', Ext w0 w' → LogIn w' ve vp V L ∧ LogBox w' g0 ve vp) := Lib.hid fun w' x => ⟨h.ext (x0.trans x), b0.ext x⟩
 have HI := Lib.hid (h.row.run_idx (P := Tryz.prog) IEv.und IEv.size .i64)
 have HJ := Lib.hid (h.prow.run_idx (P := Tryz.prog) IP.und IP.size .i64)
 have l1 := h.row.run_len (P := Tryz.prog) IEv.und 3
 have l2 := h.prow.run_len (P := Tryz.prog) IP.und 3
 obtain ⟨c0, c1⟩ := b0.cells
 clear hw0 hg0 x0 b0 h
 go_enter Tryz.func135, Tryz.ntmps135
 go_upto_region 1 with fail
 rw [← HW.out.1, ← HW.out.2.1]
 clear s1 s2
 have HR : Hid (RelIs w0 p L.ev.length (hbB L)) := Lib.hid (HR0.out.ext HW.out.2.2)
 go_step3
 go_wp2_with fail
 go_step3
 go_wp2_with fail
 clear c0 c1
 go_loopw [16] (fun s wr => ∃ k : Nat, k ≤ L.ev.length ∧ s = .int .i64 (k : Int) ∧ (∀ j, j < k → hidP L r x a j = false) ∧ Ext w0 wr) (fun s _ => L.ev.length - (intOf s).toNat)
 case atStart => exact ⟨0, Nat.zero_le _, rfl, fun j hj => absurd hj (Nat.not_lt_zero _), Mod.refl _ _⟩
 case round =>
  obtain ⟨k, hk, rfl, hn, xx⟩ := hrel
  have HN := Lib.hid hn
  have HX := Lib.hid xx
  clear hn
  by_cases hlt : k < L.ev.length
  · have hlt' : (k : Int) < (L.ev.length : Int) := by omega
    have i0 := HI.out k hlt
    have hlg := (KE.out _ xx).1
    obtain ⟨c0, c1, c2, c3, c4, c5, c6, c7, c8, c9⟩ := hlg.cells hlt
    have hea := hlg.ev k hlt
    have hpk := HP.out k
    obtain ⟨e, he⟩ : ∃ e, e = evn L.ev k := ⟨_, rfl⟩
    obtain ⟨v, hv⟩ : ∃ v, v = V k := ⟨_, rfl⟩
    obtain ⟨A, hA⟩ : ∃ A, A = at_ ve (k * 10) := ⟨_, rfl⟩
    rw [← hA] at i0 c0 c1 c2 c3 c4 c5 c6 c7 c8 c9
    rw [← he] at c0 c1 c2 c3 c4 c5 c6 hea hpk
    rw [← hv] at c7 c8 c9 hea
    obtain ⟨k1, k2, k3, t1, t2, t3⟩ := ev_facts hea
    obtain ⟨w5, hw5⟩ : ∃ w5, w5 = wr.alloc (.cells (evArr e v) 70) := ⟨_, rfl⟩
    obtain ⟨g5, hg5⟩ : ∃ g, g = wr.heap.size := ⟨_, rfl⟩
    have x5 : Ext wr w5 := by rw [hw5]; exact (Mod.refl _ _).alloc _
    have b5 : EvBox w5 g5 e v := by rw [hw5, hg5]; exact EvBox.of wr e v
    have HEA := Lib.hid (hea.ext x5)
    have HW5 := Lib.hid (And.intro hw5 (And.intro hg5 (And.intro x5 b5)))
    have KF : Hid (∀ w', Ext w5 w' → w'.cell? ⟨g0, 0, none⟩ = some ve ∧ w'.cell? ⟨g5, 0, none⟩ = some (.int .i64 (e).ag) ∧ w'.cell? ⟨g5, 1, none⟩ = some (.int .i64 (e).kind) ∧ w'.cell? ⟨g5, 2, none⟩ = some (.bool (e).seq) ∧ w'.cell? ⟨g5, 3, none⟩ = some (.bool (e).nt) ∧ w'.cell? ⟨g5, 4, none⟩ = some (.int .i64 (e).blk) ∧ w'.cell? ⟨g5, 5, none⟩ = some (.int .i64 (e).at_) ∧ w'.cell? ⟨g5, 6, none⟩ = some (.int .i64 (e).size) ∧ w'.cell? ⟨g5, 7, none⟩ = some v.r ∧ w'.cell? ⟨g5, 8, none⟩ = some v.w ∧ w'.cell? ⟨g5, 9, none⟩ = some v.f ∧ w'.cell? ⟨A1.block, A1.off + 4, none⟩ = some (.int .i64 bk)) := Lib.hid fun w' z => by
     obtain ⟨a0, a1, a2, a3, a4, a5, a6, a7, a8, a9⟩ := (b5.ext z).cells
     have h1 := KE.out _ (xx.trans (x5.trans z))
     exact ⟨h1.2.cells.1, a0, a1, a2, a3, a4, a5, a6, a7, a8, a9, HBK.out _ h1.1⟩
    obtain ⟨QW, hQW⟩ : ∃ Q, Q = (wrsB e && evCov e bk a) := ⟨_, rfl⟩
    obtain ⟨QH, hQH⟩ : ∃ Q, Q = hbB L k r := ⟨_, rfl⟩
    obtain ⟨QX, hQX⟩ : ∃ Q, Q = hasB L.ev.length (hbB L) x k := ⟨_, rfl⟩
    rw [← hQW, ← hQH, ← hQX] at hpk
    have HPK := Lib.hid hpk
    have HQW := Lib.hid hQW.symm
    have HQH : Hid (hasB L.ev.length (hbB L) (k : Int) (r : Int) = QH) := Lib.hid (by rw [hQH]; exact hasB_nat hlt hrl')
    have HQX := Lib.hid hQX.symm
    have HNO : Hid (hidP L r x a k = false → ∀ j, j < k + 1 → hidP L r x a j = false) := Lib.hid fun h j hj => by
     by_cases e : j = k
     · subst e; exact h
     · exact HN.out j (by omega)
    have HYES : Hid (hidP L r x a k = true → B = true) := Lib.hid fun h => by rw [HB.out]; exact anyB_iff.2 ⟨k, hlt, h⟩
    clear hlg hea he hv hA hw5 hg5 x5 b5 hpk hQW hQH hQX xx
    go_upto_region 4 with fail
    rw [← HW5.out.1, ← HW5.out.2.1]
    clear c0 c1 c2 c3 c4 c5 c6 c7 c8 c9 t1 t2 t3 i0
    cases QW with
    | false =>
     have HNN := Lib.hid (HNO.out (by rw [HPK.out]; rfl))
     refine wp_region_plan [(0, true), (1, true), (2, true), (3, true), (4, true), (5, true), (6, true), (7, true), (8, false), (9, true), (10, true), (11, true), (12, true), (13, true), (14, false), (15, true), (16, true), (17, true)] (fun w' => w'.cell? ⟨g0, 0, none⟩ = some ve ∧ w'.cell? ⟨g5, 0, none⟩ = some (.int .i64 (e).ag) ∧ w'.cell? ⟨g5, 1, none⟩ = some (.int .i64 (e).kind) ∧ w'.cell? ⟨g5, 2, none⟩ = some (.bool (e).seq) ∧ w'.cell? ⟨g5, 3, none⟩ = some (.bool (e).nt) ∧ w'.cell? ⟨g5, 4, none⟩ = some (.int .i64 (e).blk) ∧ w'.cell? ⟨g5, 5, none⟩ = some (.int .i64 (e).at_) ∧ w'.cell? ⟨g5, 6, none⟩ = some (.int .i64 (e).size) ∧ w'.cell? ⟨g5, 7, none⟩ = some v.r ∧ w'.cell? ⟨g5, 8, none⟩ = some v.w ∧ w'.cell? ⟨g5, 9, none⟩ = some v.f ∧ w'.cell? ⟨A1.block, A1.off + 4, none⟩ = some (.int .i64 bk)) (by kernel_rfl) (by kernel_rfl) (by kernel_rfl) (fun _ d _ _ _ h => by cases d <;> exact h) (KF.out _ (Mod.drew (Mod.refl _ _))) ?_
     simp only [planL, getO]
     iterate 8 (refine plan_take (v := ?_) (by rfl) (fun wS hS => ?_) ?_; rotate_left; (focus ((try dsimp only at hS); go_simp; (try with_reducible rfl); done)); (try simp only [Act.put, List.setIfInBounds_toArray, List.set_cons_zero, List.set_cons_succ]))
     refine plan_call (fun K hK => ?_)
     go_simp
     go_at_call 160; refine (mwrites_any _ e v (HEA.out.ext (Mod.drew (Mod.refl _ _))) bk a HAI.out).mono ?_; rintro en w6 ⟨rfl, y6⟩; have E6 : Ext w5 w6 := Mod.trans (Mod.drew (Mod.refl _ _)) y6; rw [HQW.out]
     refine hK.out _ _ (KF.out _ E6) ?_
     clear hK K
     (try simp only [Act.put, List.setIfInBounds_toArray, List.set_cons_zero, List.set_cons_succ])
     iterate 2 (refine plan_take (v := ?_) (by rfl) (fun wS hS => ?_) ?_; rotate_left; (focus ((try dsimp only at hS); go_simp; (try with_reducible rfl); done)); (try simp only [Act.put, List.setIfInBounds_toArray, List.set_cons_zero, List.set_cons_succ]))
     iterate 5 (refine plan_skip (by rfl) ?_; (try simp only [Act.put, List.setIfInBounds_toArray, List.set_cons_zero, List.set_cons_succ]))
     iterate 2 (refine plan_take (v := ?_) (by rfl) (fun wS hS => ?_) ?_; rotate_left; (focus ((try dsimp only at hS); go_simp; (try with_reducible rfl); done)); (try simp only [Act.put, List.setIfInBounds_toArray, List.set_cons_zero, List.set_cons_succ]))
     refine plan_nil ?_
     go_wp2_with fail
     go_roundw
     case rel => exact ⟨k + 1, by omega, by go_num, HNN.out, HX.out.trans (HW5.out.2.2.1.trans E6)⟩
     case measure => simp [intOf]; omega
    | true =>
     refine wp_region_plan [(0, true), (1, true), (2, true), (3, true), (4, true), (5, true), (6, true), (7, true), (8, false), (9, true), (10, true), (11, true), (12, true), (13, true), (14, false), (15, true), (16, true), (17, true)] (fun w' => w'.cell? ⟨g0, 0, none⟩ = some ve ∧ w'.cell? ⟨g5, 0, none⟩ = some (.int .i64 (e).ag) ∧ w'.cell? ⟨g5, 1, none⟩ = some (.int .i64 (e).kind) ∧ w'.cell? ⟨g5, 2, none⟩ = some (.bool (e).seq) ∧ w'.cell? ⟨g5, 3, none⟩ = some (.bool (e).nt) ∧ w'.cell? ⟨g5, 4, none⟩ = some (.int .i64 (e).blk) ∧ w'.cell? ⟨g5, 5, none⟩ = some (.int .i64 (e).at_) ∧ w'.cell? ⟨g5, 6, none⟩ = some (.int .i64 (e).size) ∧ w'.cell? ⟨g5, 7, none⟩ = some v.r ∧ w'.cell? ⟨g5, 8, none⟩ = some v.w ∧ w'.cell? ⟨g5, 9, none⟩ = some v.f ∧ w'.cell? ⟨A1.block, A1.off + 4, none⟩ = some (.int .i64 bk)) (by kernel_rfl) (by kernel_rfl) (by kernel_rfl) (fun _ d _ _ _ h => by cases d <;> exact h) (KF.out _ (Mod.drew (Mod.refl _ _))) ?_
     simp only [planL, getO]
     iterate 8 (refine plan_take (v := ?_) (by rfl) (fun wS hS => ?_) ?_; rotate_left; (focus ((try dsimp only at hS); go_simp; (try with_reducible rfl); done)); (try simp only [Act.put, List.setIfInBounds_toArray, List.set_cons_zero, List.set_cons_succ]))
     refine plan_call (fun K hK => ?_)
     go_simp
     go_at_call 160; refine (mwrites_any _ e v (HEA.out.ext (Mod.drew (Mod.refl _ _))) bk a HAI.out).mono ?_; rintro en w6 ⟨rfl, y6⟩; have E6 : Ext w5 w6 := Mod.trans (Mod.drew (Mod.refl _ _)) y6; rw [HQW.out]
     refine hK.out _ _ (KF.out _ E6) ?_
     clear hK K
     (try simp only [Act.put, List.setIfInBounds_toArray, List.set_cons_zero, List.set_cons_succ])
     iterate 5 (refine plan_take (v := ?_) (by rfl) (fun wS hS => ?_) ?_; rotate_left; (focus ((try dsimp only at hS); go_simp; (try with_reducible rfl); done)); (try simp only [Act.put, List.setIfInBounds_toArray, List.set_cons_zero, List.set_cons_succ]))
     refine plan_call (fun K hK => ?_)
     go_simp
     go_at_call 126; refine (has_any _ _ _ _ (HR.out.ext (HX.out.trans (HW5.out.2.2.1.trans E6))) (k : Int) (r : Int)).mono ?_; rintro en w7 ⟨rfl, y7⟩; have E7 : Ext w5 w7 := Mod.trans E6 y7; rw [HQH.out]
     refine hK.out _ _ (KF.out _ E7) ?_
     clear hK K
     (try simp only [Act.put, List.setIfInBounds_toArray, List.set_cons_zero, List.set_cons_succ])
     iterate 3 (refine plan_take (v := ?_) (by rfl) (fun wS hS => ?_) ?_; rotate_left; (focus ((try dsimp only at hS); go_simp; (try with_reducible rfl); done)); (try simp only [Act.put, List.setIfInBounds_toArray, List.set_cons_zero, List.set_cons_succ]))
     refine plan_nil ?_
     cases QH with
     | false =>
      have HNN := Lib.hid (HNO.out (by rw [HPK.out]; rfl))
      go_wp2_with fail
      go_roundw
      case rel => exact ⟨k + 1, by omega, by go_num, HNN.out, HX.out.trans (HW5.out.2.2.1.trans E7)⟩
      case measure => simp [intOf]; omega
     | true =>
      by_cases hx0 : x < 0
      · have hx0' : ¬ (0 : Int) ≤ x := by omega
        have HYY := Lib.hid (HYES.out (by rw [HPK.out]; simp [hx0]))
        go_wp2_with fail
        try rw [Exit.noGoto_ret]
        go_ret
        exact ⟨ret_bool (by rw [HYY.out]), HW.out.2.2.trans (HX.out.trans (HW5.out.2.2.1.trans E7))⟩
      · have hx0' : (0 : Int) ≤ x := by omega
        have HPX : Hid (hidP L r x a k = QX) := Lib.hid (by rw [HPK.out]; simp [hx0])
        go_wp2_with fail
        refine (has_any _ _ _ _ (HR.out.ext (HX.out.trans (HW5.out.2.2.1.trans E7))) x (k : Int)).mono ?_
        rintro en w8 ⟨rfl, y8⟩
        rw [HQX.out]
        have X8 := Lib.hid (HX.out.trans (HW5.out.2.2.1.trans (E7.trans y8)))
        clear y8
        cases QX with
        | false =>
         have HNN := Lib.hid (HNO.out HPX.out)
         go_wp2_with fail
         go_roundw
         case rel => exact ⟨k + 1, by omega, by go_num, HNN.out, X8.out⟩
         case measure => simp [intOf]; omega
        | true =>
         have HYY := Lib.hid (HYES.out HPX.out)
         go_wp2_with fail
         try rw [Exit.noGoto_ret]
         go_ret
         exact ⟨ret_bool (by rw [HYY.out]), HW.out.2.2.trans X8.out⟩
  · have hlt' : ¬ (k : Int) < (L.ev.length : Int) := by omega
    have HF : Hid (B = false) := Lib.hid (by
     rw [HB.out]; exact anyB_none.2 fun j hj => HN.out j (by omega))
    clear xx
    go_wp2_with fail
    try rw [Exit.noGoto_ret]
    go_ret
    exact ⟨ret_bool (by rw [HF.out]), HW.out.2.2.trans HX.out⟩
end Go.Proofs.YtbhocahmhmafmaaGreat
namespace Go.Proofs.YtbhocahmhmafmaaGreat
open Go.Ren Go.RowKit
set_option linter.unusedVariables false
theorem may_range {L : Lg} (h : mayL L = true) {r : Nat} (hr : r < L.ev.length) : 0 ≤ (evn L.ev r).at_ ∧ (evn L.ev r).at_ ≤ 256 := by
 have := evFields_sizes (evOk1_fields ((mayL_iff.1 h).2.1 r hr)); exact ⟨this.2.2.1, this.2.2.2.1⟩
set_option maxRecDepth 100000 in
set_option maxHeartbeats 1600000 in
theorem coherent_any (w : World) (ve vp : Value) (V : Nat → Vs) (L : Lg) (h : LogIn w ve vp V L) (hl : L.ev.length ≤ 64) :
 Calls Tryz.prog 76 #[.agg #[ve, vp]] w (NumPost (cohI L) w) := by
 have HLE := Lib.hid hl
 have hle : (L.ev.length : Int) ≤ 64 := by omega
 clear hl
 have q1 := Sl.cells_eq h.row
 have q2 := Sl.cells_eq h.prow
 have s1 := Sl.run_st (P := Tryz.prog) h.row
 have s2 := Sl.run_st (P := Tryz.prog) h.prow
 obtain ⟨w0, hw0⟩ : ∃ w0, w0 = w.alloc (.cells #[ve, vp] 48) := ⟨_, rfl⟩
 obtain ⟨g0, hg0⟩ : ∃ g, g = w.heap.size := ⟨_, rfl⟩
 have x0 : Ext w w0 := by rw [hw0]; exact (Mod.refl _ _).alloc _
 have b0 : LogBox w0 g0 ve vp := ⟨by rw [hw0, hg0]; exact heap_alloc_new _ _⟩
 have HW := Lib.hid (And.intro hw0 (And.intro hg0 x0))
 have KE : Hid (∀ w', Ext w0 w' → LogIn w' ve vp V L ∧ LogBox w' g0 ve vp) := Lib.hid fun w' x => ⟨h.ext (x0.trans x), b0.ext x⟩
 have HI := Lib.hid (h.row.run_idx (P := Tryz.prog) IEv.und IEv.size .i64)
 have HJ := Lib.hid (h.prow.run_idx (P := Tryz.prog) IP.und IP.size .i64)
 have l1 := h.row.run_len (P := Tryz.prog) IEv.und 3
 have l2 := h.prow.run_len (P := Tryz.prog) IP.und 3
 obtain ⟨c0, c1⟩ := b0.cells
 clear hw0 hg0 x0 b0 h
 go_enter Tryz.func76, Tryz.ntmps76
 go_upto_region 1 with fail
 rw [← HW.out.1, ← HW.out.2.1]
 clear s1 s2
 go_wp2_with fail
 refine (may_any _ ve vp V L (KE.out _ (Mod.refl _ _)).1).mono ?_
 rintro e w1 ⟨rfl, y1⟩
 clear c0 c1
 cases hm : mayL L with
 | false =>
  have HC : Hid (cohI L = 0) := Lib.hid (by unfold cohI; rw [hm]; rfl)
  clear hm
  go_wp2_with fail
  go_ret
  exact ⟨by rw [HC.out]; rfl, HW.out.2.2.trans y1⟩
 | true =>
  have HM := Lib.hid hm
  have HC : Hid (cohI L = fstN (cohB L) L.ev.length) := Lib.hid (by unfold cohI; rw [if_pos hm])
  clear hm
  obtain ⟨c0, c1⟩ := (KE.out _ y1).2.cells
  go_wp2_with fail
  refine (rbefore_any _ ve vp V L (KE.out _ y1).1 HLE.out).mono ?_
  rintro e w2 h2
  obtain ⟨pr, rfl, r2, y2⟩ := rpost_is h2
  rw [relN_may HM.out] at r2
  have HR2 := Lib.hid r2
  have HX2 := Lib.hid (y1.trans y2)
  clear h2 r2 c0 c1
  obtain ⟨c0, c1⟩ := (KE.out _ HX2.out).2.cells
  go_wp2_with fail
  clear c0 c1
  go_loopw [16] (fun s wr => ∃ r : Nat, r ≤ L.ev.length ∧ s = .int .i64 (r : Int) ∧ (∀ j, j < r → cohB L j = false) ∧ Ext w2 wr) (fun s _ => L.ev.length - (intOf s).toNat)
  case atStart => exact ⟨0, Nat.zero_le _, rfl, fun j hj => absurd hj (Nat.not_lt_zero _), Mod.refl _ _⟩
  case round =>
   obtain ⟨r, hr, rfl, hn, xx⟩ := hrel
   have HN := Lib.hid hn
   have HX := Lib.hid xx
   clear hn xx
   by_cases hlt : r < L.ev.length
   · have hlt' : (r : Int) < (L.ev.length : Int) := by omega
     have i0 := HI.out r hlt
     have hlg := (KE.out _ (HX2.out.trans HX.out)).1
     obtain ⟨c0, c1, c2, c3, c4, c5, c6, c7, c8, c9⟩ := hlg.cells hlt
     have hea := hlg.ev r hlt
     obtain ⟨e, he⟩ : ∃ e, e = evn L.ev r := ⟨_, rfl⟩
     obtain ⟨v, hv⟩ : ∃ v, v = V r := ⟨_, rfl⟩
     obtain ⟨A, hA⟩ : ∃ A, A = at_ ve (r * 10) := ⟨_, rfl⟩
     rw [← hA] at i0 c0 c1 c2 c3 c4 c5 c6 c7 c8 c9
     rw [← he] at c0 c1 c2 c3 c4 c5 c6 hea
     rw [← hv] at c7 c8 c9 hea
     obtain ⟨k1, k2, k3, t1, t2, t3⟩ := ev_facts hea
     obtain ⟨w5, hw5⟩ : ∃ w5, w5 = wr.alloc (.cells (evArr e v) 70) := ⟨_, rfl⟩
     obtain ⟨g5, hg5⟩ : ∃ g, g = wr.heap.size := ⟨_, rfl⟩
     have x5 : Ext wr w5 := by rw [hw5]; exact (Mod.refl _ _).alloc _
     have b5 : EvBox w5 g5 e v := by rw [hw5, hg5]; exact EvBox.of wr e v
     have HEA := Lib.hid (hea.ext x5)
     have HE := Lib.hid (And.intro he hv)
     have HW5 := Lib.hid (And.intro hw5 (And.intro hg5 (And.intro x5 b5)))
     have l5 := hea.fr.sl.run_len (P := Tryz.prog) II.und 3
     have J5 := Lib.hid (hea.fr.sl.run_idx (P := Tryz.prog) II.und II.size .i64)
     obtain ⟨d0, d1, d2, d3, d4, d5, d6, d7, d8, d9⟩ := b5.cells
     clear hlg hea he hv hA hw5 hg5 x5 b5
     go_upto_region 7 with fail
     rw [← HW5.out.1, ← HW5.out.2.1]
     clear c0 c1 c2 c3 c4 c5 c6 c7 c8 c9 t1 t2 t3 i0
     obtain ⟨ha0, ha1⟩ : 0 ≤ e.at_ ∧ e.at_ ≤ 256 := by rw [HE.out.1]; exact may_range HM.out hlt
     have h8 : (e.fr.length : Int) ≤ 8 := by have := may_small HM.out hlt; rw [← HE.out.1] at this; omega
     go_wp2_with fail
     clear d0 d1 d2 d3 d4 d5 d6 d7 d8 d9
     go_loopw [24] (fun s wq => ∃ i : Nat, i ≤ e.fr.length ∧ s = .int .i64 (i : Int) ∧ (∀ j, j < i → cohP L r j = false) ∧ Ext w5 wq) (fun s _ => e.fr.length - (intOf s).toNat)
     case atStart => exact ⟨0, Nat.zero_le _, rfl, fun j hj => absurd hj (Nat.not_lt_zero _), Mod.refl _ _⟩
     case round =>
      obtain ⟨i, hi, rfl, hn, xq⟩ := hrel
      have HN2 := Lib.hid hn
      have HXQ := Lib.hid xq
      have HXW := Lib.hid (HX.out.trans (HW5.out.2.2.1.trans xq))
      clear hn
      by_cases hil : i < e.fr.length
      · have hil' : (i : Int) < (e.fr.length : Int) := by omega
        have j0 := J5.out i hil
        simp only [Nat.mul_one] at j0
        have cF := IntsAt.cell (l := e.fr) (v := v.f) ((HEA.out.ext xq).fr) hil
        obtain ⟨x, hx⟩ : ∃ x, x = e.fr[i] := ⟨_, rfl⟩
        rw [← hx] at cF
        have hfx : frn L r i = x := by rw [hx]; exact frn_eq HE.out.1 hil
        obtain ⟨Q1, hQ1⟩ : ∃ Q, Q = hasB L.ev.length (hbB L) (r : Int) x := ⟨_, rfl⟩
        obtain ⟨Q2, hQ2⟩ : ∃ Q, Q = hidB L r x (e.at_ + i) := ⟨_, rfl⟩
        have HP : Hid (cohP L r i = (Q1 || Q2)) := Lib.hid (by unfold cohP; rw [hfx, hQ1, hQ2, HE.out.1])
        have HQ1 := Lib.hid hQ1.symm
        have HQ2 := Lib.hid hQ2.symm
        have HNO : Hid (cohP L r i = false → ∀ j, j < i + 1 → cohP L r j = false) := Lib.hid fun h j hj => by
         by_cases e : j = i
         · subst e; exact h
         · exact HN2.out j (by omega)
        have HYES : Hid (cohP L r i = true → (r : Int) = cohI L) := Lib.hid fun h => by
         rw [HC.out, fstN_hit hlt HN.out (anyB_iff.2 ⟨i, by rw [← HE.out.1]; exact hil, h⟩)]
        clear hx hfx hQ1 hQ2 xq
        go_wp2_with fail
        refine (has_any _ _ _ _ (HR2.out.ext HXW.out) (r : Int) x).mono ?_
        rintro en w6 ⟨rfl, y6⟩
        rw [HQ1.out]
        have X6 := Lib.hid (HXW.out.trans y6)
        have HXQ6 := Lib.hid (HXQ.out.trans y6)
        clear y6 cF
        cases Q1 with
        | true =>
         have HYY := Lib.hid (HYES.out (by rw [HP.out]; rfl))
         go_wp2_with fail
         go_ret
         exact ⟨by rw [← HYY.out]; rfl, HW.out.2.2.trans (HX2.out.trans X6.out)⟩
        | false =>
         obtain ⟨c0, c1⟩ := (KE.out _ (HX2.out.trans X6.out)).2.cells
         obtain ⟨d0, d1, d2, d3, d4, d5, d6, d7, d8, d9⟩ := (HW5.out.2.2.2.ext HXQ6.out).cells
         go_wp2_with fail
         refine (hidden_any _ ve vp V L (KE.out _ (HX2.out.trans X6.out)).1 HLE.out _ (HR2.out.ext X6.out) r hlt x (e.at_ + i) (by unfold I64; omega)).mono ?_
         rintro en w7 ⟨rfl, y7⟩
         rw [HQ2.out]
         have X7 := Lib.hid (X6.out.trans y7)
         have HXQ7 := Lib.hid (HXQ6.out.trans y7)
         clear y7 c0 c1 d0 d1 d2 d3 d4 d5 d6 d7 d8 d9
         cases Q2 with
         | true =>
          have HYY := Lib.hid (HYES.out (by rw [HP.out]; rfl))
          go_wp2_with fail
          go_ret
          exact ⟨by rw [← HYY.out]; rfl, HW.out.2.2.trans (HX2.out.trans X7.out)⟩
         | false =>
          have HNN := Lib.hid (HNO.out (by rw [HP.out]; rfl))
          go_wp2_with fail
          go_roundw
          case rel => exact ⟨i + 1, by omega, by go_num, HNN.out, HXQ7.out⟩
          case measure => simp [intOf]; omega
      · have hil' : ¬ (i : Int) < (e.fr.length : Int) := by omega
        have HNN : Hid (∀ j, j < r + 1 → cohB L j = false) := Lib.hid fun j hj => by
         by_cases ej : j = r
         · subst ej; exact anyB_none.2 fun i' hi' => HN2.out i' (by rw [← HE.out.1] at hi'; omega)
         · exact HN.out j (by omega)
        clear xq
        go_wp2_with fail
        go_roundw
        case rel => exact ⟨r + 1, by omega, by go_num, HNN.out, HXW.out⟩
        case measure => simp [intOf]; omega
   · have hlt' : ¬ (r : Int) < (L.ev.length : Int) := by omega
     have HF : Hid (cohI L = -1) := Lib.hid (by rw [HC.out]; exact fstN_none fun j hj => HN.out j (by omega))
     go_wp2_with fail
     go_ret
     exact ⟨by rw [HF.out]; rfl, HW.out.2.2.trans (HX2.out.trans HX.out)⟩
end Go.Proofs.YtbhocahmhmafmaaGreat
