/-
  The contracts of renref14.Natural, renref14.hidden. No condition.
-/
import Derived.Test.YtbhocahmhmafmaaGreatVRvBefore
import Derived.Test.YtbhocahmhmafmaaGreatVModOrd
namespace Go.Proofs.YtbhocahmhmafmaaGreat
open Go.Ren Go.RowKit
set_option linter.unusedVariables false
set_option maxRecDepth 100000 in
set_option maxHeartbeats 800000 in
theorem rnatural_any (w : World) (ve vp : Value) (V : Nat → Vs) (L : Lg) (h : LogIn w ve vp V L) (hsm : SmL L) (hl : L.ev.length ≤ 64) :
 Calls Tryz.prog 28 #[.agg #[ve, vp]] w (NatPost (natL L) w) := by
 have HSM := Lib.hid hsm
 have hle : (L.ev.length : Int) ≤ 64 := by omega
 clear hl hsm
 have q1 := Sl.cells_eq h.row
 have q2 := Sl.cells_eq h.prow
 have s1 := Sl.run_st (P := Tryz.prog) h.row
 have s2 := Sl.run_st (P := Tryz.prog) h.prow
 obtain ⟨w0, hw0⟩ : ∃ w0, w0 = w.alloc (.cells #[ve, vp] 57) := ⟨_, rfl⟩
 obtain ⟨g0, hg0⟩ : ∃ g, g = w.heap.size := ⟨_, rfl⟩
 have x0 : Ext w w0 := by rw [hw0]; exact (Mod.refl _ _).alloc _
 have b0 : RLogBox w0 g0 ve vp := ⟨by rw [hw0, hg0]; exact heap_alloc_new _ _⟩
 have HW := Lib.hid (And.intro hw0 (And.intro hg0 x0))
 have KE : Hid (∀ w', Ext w0 w' → LogIn w' ve vp V L ∧ RLogBox w' g0 ve vp) := Lib.hid fun w' x => ⟨h.ext (x0.trans x), b0.ext x⟩
 have HI := Lib.hid (h.row.run_idx (P := Tryz.prog) IRe.und IRe.size .i64)
 have HJ := Lib.hid (h.prow.run_idx (P := Tryz.prog) IP.und IP.size .i64)
 have l1 := h.row.run_len (P := Tryz.prog) IRe.und 3
 have l2 := h.prow.run_len (P := Tryz.prog) IP.und 3
 obtain ⟨c0, c1⟩ := b0.cells
 clear hw0 hg0 x0 b0 h
 go_enter Tryz.func28, Tryz.ntmps28
 go_upto_region 1 with fail
 rw [← HW.out.1, ← HW.out.2.1]
 clear s1 s2
 go_wp2_with fail
 refine (rmay_any _ ve vp V L (KE.out _ (Mod.refl _ _)).1 HSM.out).mono ?_
 rintro e w1 ⟨rfl, y1⟩
 clear c0 c1
 cases hm : mayL L with
 | false =>
  have HC : Hid (natL L = []) := Lib.hid (by unfold natL; rw [hm]; rfl)
  clear hm
  go_wp2_with fail
  go_ret
  refine ⟨_, rfl, ?_, HW.out.2.2.trans y1⟩
  rw [HC.out]
  exact ⟨(Own.nil _ 3 1).sl, fun x hx => by cases hx⟩
 | true =>
  have HC : Hid (natL L = (List.range L.ev.length).map fun i : Nat => (i : Int)) := Lib.hid (by unfold natL; rw [if_pos hm])
  clear hm
  have HY1 := Lib.hid y1
  clear y1
  go_wp2_with fail
  go_loopw [3, 4] (fun s3 s wr => ∃ k : Nat, k ≤ L.ev.length ∧ s = .int .i64 (k : Int) ∧ Own wr 3 1 s3 k ((List.range k).map (fun j : Nat => iv (j : Int))) ∧ Ext w1 wr ∧ ∀ q, s3.ownBlock = some q → w1.heap.size ≤ q) (fun _ s _ => L.ev.length - (intOf s).toNat)
  case atStart => exact ⟨0, Nat.zero_le _, rfl, Own.nil _ _ _, Mod.refl _ _, fun q hq => by cases hq⟩
  case round =>
   obtain ⟨k, hk, rfl, ho, xx, hf⟩ := hrel
   have H := Lib.hid (And.intro ho (And.intro xx hf))
   obtain ⟨c0, c1⟩ := (KE.out _ (HY1.out.trans xx)).2.cells
   clear ho xx hf
   by_cases hlt : k < L.ev.length
   · have hlt' : (k : Int) < (L.ev.length : Int) := by omega
     go_wp2_with (at_builtin; go_loud (refine wpList_app II rfl (.tmp 15) (.tmp 17) rfl (H.out.1.ext (Mod.alloc (Mod.refl _ _) _)) (built_sl (n := 1) (g := wr.heap.size) (e := 3) (cs := #[.int .i64 (k : Int)]) (by simp only [heap_alloc_if, if_true]) rfl (by simp only [maxLen]; omega)) (one1 _) (by simp [Act.eval]) (by simp [Act.eval]) (by omega) (by simp only [maxLen]; omega) ?_); intro lv' w2 ol2 gr2 fr2 nn2; have HH := Lib.hid (And.intro ol2 (And.intro gr2 fr2)); clear ol2 gr2 fr2 nn2)
     go_roundw
     case rel =>
      obtain ⟨ol2, gr2, fr2⟩ := HH.out
      have M2 : Mod (fun q => u3.ownBlock = some q) wr w2 := Mod.grown (Mod.alloc (Mod.refl _ _) _) gr2 (fun q h => .inl h)
      exact ⟨k + 1, by omega, by go_num, by rw [natP_succ]; exact ol2, H.out.2.1.trans' M2 (fun q hq => .inr (H.out.2.2 q hq)), fun q hq => by
       rcases fr2 q hq with h | h
       · exact H.out.2.2 q h
       · simp only [World.size_alloc] at h; have := H.out.2.1.size; omega⟩
     case measure => simp [intOf]; omega
   · have hlt' : ¬ (k : Int) < (L.ev.length : Int) := by omega
     have HK : Hid (k = L.ev.length) := Lib.hid (by omega)
     go_wp2_with fail
     go_ret
     refine ⟨_, rfl, ⟨?_, fun x hx => ?_⟩, HW.out.2.2.trans (HY1.out.trans H.out.2.1)⟩
     · have h1 := H.out.1.sl
       have hk2 := HK.out
       rw [hk2] at h1
       rw [HC.out]
       simpa [List.map_map, Function.comp_def] using h1
     · rw [HC.out, List.mem_map] at hx
       obtain ⟨j, hj, rfl⟩ := hx
       rw [List.mem_range] at hj
       unfold I64; omega
set_option maxRecDepth 100000 in
set_option maxHeartbeats 1600000 in
theorem rhidden_any (w : World) (ve vp : Value) (V : Nat → Vs) (L : Lg) (h : LogIn w ve vp V L) (rv : Value) (R : Nat → Value) (hr : RRel w rv R L.ev.length (hbB L)) (r : Nat) (hrl : r < L.ev.length) (x a : Int) (hx : x < (L.ev.length : Int)) (ha : I64 a) :
 Calls Tryz.prog 142 #[.agg #[ve, vp], rv, .int .i64 x, .int .i64 (r : Int), .int .i64 a] w (FPost (hidB L r x a) w) := by
 have HAI := Lib.hid ha
 have hle : (L.ev.length : Int) ≤ 64 := by have := hr.le; omega
 obtain ⟨bk, hbk⟩ : ∃ b, b = (evn L.ev r).blk := ⟨_, rfl⟩
 obtain ⟨A1, hA1⟩ : ∃ A, A = at_ ve (r * 10) := ⟨_, rfl⟩
 have iR := h.row.run_idx (P := Tryz.prog) IRe.und IRe.size .i64 r hrl
 rw [← hA1] at iR
 have HBK : Hid (∀ w', LogIn w' ve vp V L → w'.cell? ⟨A1.block, A1.off + 4, none⟩ = some (.int .i64 bk)) := Lib.hid fun w' h' => by have := (h'.cells hrl).2.2.2.2.1; rw [← hA1, ← hbk] at this; exact this
 obtain ⟨B, hB⟩ : ∃ B, B = hidB L r x a := ⟨_, rfl⟩
 rw [← hB]
 have HB := Lib.hid hB
 have HP : Hid (∀ k, hidP L r x a k = (wrsB (evn L.ev k) && evCov (evn L.ev k) bk a && hbB L k r && (decide (x < 0) || hasB L.ev.length (hbB L) x k))) := Lib.hid fun k => by rw [hbk]; rfl
 have hrl' := hrl
 have HR0 := Lib.hid hr
 have HXL := Lib.hid hx
 clear ha hbk hA1 hB hr hx
 have q1 := Sl.cells_eq h.row
 have q2 := Sl.cells_eq h.prow
 have s1 := Sl.run_st (P := Tryz.prog) h.row
 have s2 := Sl.run_st (P := Tryz.prog) h.prow
 obtain ⟨w0, hw0⟩ : ∃ w0, w0 = w.alloc (.cells #[ve, vp] 57) := ⟨_, rfl⟩
 obtain ⟨g0, hg0⟩ : ∃ g, g = w.heap.size := ⟨_, rfl⟩
 have x0 : Ext w w0 := by rw [hw0]; exact (Mod.refl _ _).alloc _
 have b0 : RLogBox w0 g0 ve vp := ⟨by rw [hw0, hg0]; exact heap_alloc_new _ _⟩
 have HW := Lib.hid (And.intro hw0 (And.intro hg0 x0))
 have KE : Hid (∀ w', Ext w0 w' → LogIn w' ve vp V L ∧ RLogBox w' g0 ve vp) := Lib.hid fun w' x => ⟨h.ext (x0.trans x), b0.ext x⟩
 have HI := Lib.hid (h.row.run_idx (P := Tryz.prog) IRe.und IRe.size .i64)
 have HJ := Lib.hid (h.prow.run_idx (P := Tryz.prog) IP.und IP.size .i64)
 have l1 := h.row.run_len (P := Tryz.prog) IRe.und 3
 have l2 := h.prow.run_len (P := Tryz.prog) IP.und 3
 obtain ⟨c0, c1⟩ := b0.cells
 clear hw0 hg0 x0 b0 h
 go_enter Tryz.func142, Tryz.ntmps142
 go_upto_region 1 with fail
 rw [← HW.out.1, ← HW.out.2.1]
 clear s1 s2
 have HR : Hid (RRel w0 rv R L.ev.length (hbB L)) := Lib.hid (HR0.out.ext HW.out.2.2)
 clear c0 c1
 go_wp2_with fail
 go_loopw [11] (fun s wr => ∃ k : Nat, k ≤ L.ev.length ∧ s = .int .i64 (k : Int) ∧ (∀ j, j < k → hidP L r x a j = false) ∧ Ext w0 wr) (fun s _ => L.ev.length - (intOf s).toNat)
 case atStart => exact ⟨0, Nat.zero_le _, rfl, fun j hj => absurd hj (Nat.not_lt_zero _), Mod.refl _ _⟩
 case round =>
  obtain ⟨k, hk, rfl, hn, xx⟩ := hrel
  have HN := Lib.hid hn
  have HX := Lib.hid xx
  obtain ⟨l0, l1'⟩ := (KE.out _ xx).2.cells
  clear hn xx
  by_cases hlt : k < L.ev.length
  · have hlt' : (k : Int) < (L.ev.length : Int) := by omega
    have hpk := HP.out k
    have i0 := HI.out k hlt
    have hlg := (KE.out _ (HX.out)).1
    obtain ⟨c0, c1, c2, c3, c4, c5, c6, c7, c8, c9⟩ := hlg.cells hlt
    have hea := hlg.ev k hlt
    obtain ⟨e, he⟩ : ∃ e, e = evn L.ev k := ⟨_, rfl⟩
    obtain ⟨v, hv⟩ : ∃ v, v = V k := ⟨_, rfl⟩
    obtain ⟨A, hA⟩ : ∃ A, A = at_ ve (k * 10) := ⟨_, rfl⟩
    rw [← hA] at i0 c0 c1 c2 c3 c4 c5 c6 c7 c8 c9
    rw [← he] at c0 c1 c2 c3 c4 c5 c6 hea
    rw [← hv] at c7 c8 c9 hea
    obtain ⟨k1, k2, k3, t1, t2, t3⟩ := ev_facts hea
    obtain ⟨w5, hw5⟩ : ∃ w5, w5 = wr.alloc (.cells (evArr e v) 116) := ⟨_, rfl⟩
    obtain ⟨g5, hg5⟩ : ∃ g, g = wr.heap.size := ⟨_, rfl⟩
    have x5 : Ext wr w5 := by rw [hw5]; exact (Mod.refl _ _).alloc _
    have b5 : REvBox w5 g5 e v := ⟨by rw [hw5, hg5]; exact heap_alloc_new _ _⟩
    have HEA := Lib.hid (hea.ext x5)
    have HE := Lib.hid (And.intro he hv)
    have HW5 := Lib.hid (And.intro hw5 (And.intro hg5 (And.intro x5 b5)))
    have l5 := hea.fr.sl.run_len (P := Tryz.prog) II.und 3
    have J5 := Lib.hid (hea.fr.sl.run_idx (P := Tryz.prog) II.und II.size .i64)
    obtain ⟨d0, d1, d2, d3, d4, d5, d6, d7, d8, d9⟩ := b5.cells
    clear hlg hea he hv hA hw5 hg5 x5 b5
    go_upto_region 5 with fail
    rw [← HW5.out.1, ← HW5.out.2.1]
    clear c0 c1 c2 c3 c4 c5 c6 c7 c8 c9 t1 t2 t3 i0
    rw [← HE.out.1] at hpk
    clear d0 d1 d2 d3 d4 d5 d6 d7 d8 d9 l0 l1'
    obtain ⟨i1, i2⟩ := HR.out.idx hlt hrl'
    obtain ⟨QW, hQW⟩ : ∃ Q, Q = wrsB e := ⟨_, rfl⟩
    obtain ⟨QC, hQC⟩ : ∃ Q, Q = evCov e bk a := ⟨_, rfl⟩
    obtain ⟨QH, hQH⟩ : ∃ Q, Q = hbB L k r := ⟨_, rfl⟩
    rw [← hQW, ← hQC, ← hQH] at hpk
    have HQW := Lib.hid hQW.symm
    have HQC := Lib.hid hQC.symm
    have HNO : Hid (hidP L r x a k = false → ∀ j, j < k + 1 → hidP L r x a j = false) := Lib.hid fun h => lt_step HN.out h
    have HYES : Hid (hidP L r x a k = true → B = true) := Lib.hid fun h => by rw [HB.out]; exact anyB_iff.2 ⟨k, hlt, h⟩
    have KFA : Hid (∀ w', Ext w5 w' → w'.cell? ⟨g0, 0, none⟩ = some ve ∧ w'.cell? ⟨g5, 0, none⟩ = some (.int .i64 (e).ag) ∧ w'.cell? ⟨g5, 1, none⟩ = some (.int .i64 (e).kind) ∧ w'.cell? ⟨g5, 2, none⟩ = some (.bool (e).seq) ∧ w'.cell? ⟨g5, 3, none⟩ = some (.bool (e).nt) ∧ w'.cell? ⟨g5, 4, none⟩ = some (.int .i64 (e).blk) ∧ w'.cell? ⟨g5, 5, none⟩ = some (.int .i64 (e).at_) ∧ w'.cell? ⟨g5, 6, none⟩ = some (.int .i64 (e).size) ∧ w'.cell? ⟨g5, 7, none⟩ = some v.r ∧ w'.cell? ⟨g5, 8, none⟩ = some v.w ∧ w'.cell? ⟨g5, 9, none⟩ = some v.f ∧ w'.cell? ⟨A1.block, A1.off + 4, none⟩ = some (.int .i64 bk) ∧ w'.cell? (at_ rv k) = some (R k) ∧ w'.cell? (at_ (R k) r) = some (.bool QH)) := Lib.hid fun w' z => by
     obtain ⟨a0, a1, a2, a3, a4, a5, a6, a7, a8, a9⟩ := (HW5.out.2.2.2.ext z).cells
     have h1 := KE.out _ (HX.out.trans (HW5.out.2.2.1.trans z))
     obtain ⟨f1, f2, -⟩ := (HR.out.ext (HX.out.trans (HW5.out.2.2.1.trans z))).facts hlt hrl'
     rw [← hQH] at f2
     exact ⟨h1.2.cells.1, a0, a1, a2, a3, a4, a5, a6, a7, a8, a9, HBK.out _ h1.1, f1, f2⟩
    by_cases hx0 : x < 0
    · have hx0' : decide (x < 0) = true := by simpa using hx0
      have HPK : Hid (hidP L r x a k = (QW && QC && QH)) := Lib.hid (by rw [hpk]; simp [hx0])
      have KF := KFA
      clear hpk hQW hQC hQH
      cases QW with
      | false =>
       refine wp_region_plan [(0, true), (1, false), (2, true), (3, true), (4, true), (5, true), (6, true), (7, true), (8, true), (9, true), (10, true), (11, false), (12, true), (13, true), (14, true), (15, true), (16, true), (17, true), (18, true), (19, true), (20, true), (21, true), (22, true), (23, true), (24, true), (25, true), (26, true), (27, true), (28, true), (29, true), (30, true), (31, true), (32, true), (33, true), (34, true)] (fun w' => w'.cell? ⟨g0, 0, none⟩ = some ve ∧ w'.cell? ⟨g5, 0, none⟩ = some (.int .i64 (e).ag) ∧ w'.cell? ⟨g5, 1, none⟩ = some (.int .i64 (e).kind) ∧ w'.cell? ⟨g5, 2, none⟩ = some (.bool (e).seq) ∧ w'.cell? ⟨g5, 3, none⟩ = some (.bool (e).nt) ∧ w'.cell? ⟨g5, 4, none⟩ = some (.int .i64 (e).blk) ∧ w'.cell? ⟨g5, 5, none⟩ = some (.int .i64 (e).at_) ∧ w'.cell? ⟨g5, 6, none⟩ = some (.int .i64 (e).size) ∧ w'.cell? ⟨g5, 7, none⟩ = some v.r ∧ w'.cell? ⟨g5, 8, none⟩ = some v.w ∧ w'.cell? ⟨g5, 9, none⟩ = some v.f ∧ w'.cell? ⟨A1.block, A1.off + 4, none⟩ = some (.int .i64 bk) ∧ w'.cell? (at_ rv k) = some (R k) ∧ w'.cell? (at_ (R k) r) = some (.bool QH)) (by kernel_rfl) (by kernel_rfl) (by kernel_rfl) (fun _ d _ _ _ h => by cases d <;> exact h) (KF.out _ (Mod.drew (Mod.refl _ _))) ?_
       simp only [planL, getO]
       (refine plan_take (v := ?_) (by rfl) (fun wS hS => ?_) ?_; rotate_left; (focus ((try dsimp only at hS); go_simp; (try with_reducible rfl); done)); (try simp only [Act.put, List.setIfInBounds_toArray, List.set_cons_zero, List.set_cons_succ]))
       refine plan_call (fun K hK => ?_)
       go_simp
       go_at_call 162; refine (rwrites_any _ e v (HEA.out.ext (Mod.drew (Mod.refl _ _)))).mono ?_; rintro en w6 ⟨rfl, y6⟩; have E6 : Ext w5 w6 := Mod.trans (Mod.drew (Mod.refl _ _)) y6; rw [HQW.out]
       refine hK.out _ _ (KF.out _ E6) ?_
       clear hK K
       (try simp only [Act.put, List.setIfInBounds_toArray, List.set_cons_zero, List.set_cons_succ])
       (refine plan_take (v := ?_) (by rfl) (fun wS hS => ?_) ?_; rotate_left; (focus ((try dsimp only at hS); go_simp; (try with_reducible rfl); done)); (try simp only [Act.put, List.setIfInBounds_toArray, List.set_cons_zero, List.set_cons_succ]))
       iterate 9 (refine plan_skip (by rfl) ?_; (try simp only [Act.put, List.setIfInBounds_toArray, List.set_cons_zero, List.set_cons_succ]))
       iterate 2 (refine plan_take (v := ?_) (by rfl) (fun wS hS => ?_) ?_; rotate_left; (focus ((try dsimp only at hS); go_simp; (try with_reducible rfl); done)); (try simp only [Act.put, List.setIfInBounds_toArray, List.set_cons_zero, List.set_cons_succ]))
       iterate 7 (refine plan_skip (by rfl) ?_; (try simp only [Act.put, List.setIfInBounds_toArray, List.set_cons_zero, List.set_cons_succ]))
       iterate 2 (refine plan_take (v := ?_) (by rfl) (fun wS hS => ?_) ?_; rotate_left; (focus ((try dsimp only at hS); go_simp; (try with_reducible rfl); done)); (try simp only [Act.put, List.setIfInBounds_toArray, List.set_cons_zero, List.set_cons_succ]))
       iterate 11 (refine plan_skip (by rfl) ?_; (try simp only [Act.put, List.setIfInBounds_toArray, List.set_cons_zero, List.set_cons_succ]))
       (refine plan_take (v := ?_) (by rfl) (fun wS hS => ?_) ?_; rotate_left; (focus ((try dsimp only at hS); go_simp; (try with_reducible rfl); done)); (try simp only [Act.put, List.setIfInBounds_toArray, List.set_cons_zero, List.set_cons_succ]))
       refine plan_nil ?_
       have HNN := Lib.hid (HNO.out (by rw [HPK.out]; first | rfl | simp))
       go_wp2_with fail
       go_roundw
       case rel => exact ⟨k + 1, by omega, by go_num, HNN.out, HX.out.trans (HW5.out.2.2.1.trans E6)⟩
       case measure => simp [intOf]; omega
      | true =>
       cases QC with
       | false =>
        refine wp_region_plan [(0, true), (1, false), (2, true), (3, true), (4, true), (5, true), (6, true), (7, true), (8, true), (9, true), (10, true), (11, false), (12, true), (13, true), (14, true), (15, true), (16, true), (17, true), (18, true), (19, true), (20, true), (21, true), (22, true), (23, true), (24, true), (25, true), (26, true), (27, true), (28, true), (29, true), (30, true), (31, true), (32, true), (33, true), (34, true)] (fun w' => w'.cell? ⟨g0, 0, none⟩ = some ve ∧ w'.cell? ⟨g5, 0, none⟩ = some (.int .i64 (e).ag) ∧ w'.cell? ⟨g5, 1, none⟩ = some (.int .i64 (e).kind) ∧ w'.cell? ⟨g5, 2, none⟩ = some (.bool (e).seq) ∧ w'.cell? ⟨g5, 3, none⟩ = some (.bool (e).nt) ∧ w'.cell? ⟨g5, 4, none⟩ = some (.int .i64 (e).blk) ∧ w'.cell? ⟨g5, 5, none⟩ = some (.int .i64 (e).at_) ∧ w'.cell? ⟨g5, 6, none⟩ = some (.int .i64 (e).size) ∧ w'.cell? ⟨g5, 7, none⟩ = some v.r ∧ w'.cell? ⟨g5, 8, none⟩ = some v.w ∧ w'.cell? ⟨g5, 9, none⟩ = some v.f ∧ w'.cell? ⟨A1.block, A1.off + 4, none⟩ = some (.int .i64 bk) ∧ w'.cell? (at_ rv k) = some (R k) ∧ w'.cell? (at_ (R k) r) = some (.bool QH)) (by kernel_rfl) (by kernel_rfl) (by kernel_rfl) (fun _ d _ _ _ h => by cases d <;> exact h) (KF.out _ (Mod.drew (Mod.refl _ _))) ?_
        simp only [planL, getO]
        (refine plan_take (v := ?_) (by rfl) (fun wS hS => ?_) ?_; rotate_left; (focus ((try dsimp only at hS); go_simp; (try with_reducible rfl); done)); (try simp only [Act.put, List.setIfInBounds_toArray, List.set_cons_zero, List.set_cons_succ]))
        refine plan_call (fun K hK => ?_)
        go_simp
        go_at_call 162; refine (rwrites_any _ e v (HEA.out.ext (Mod.drew (Mod.refl _ _)))).mono ?_; rintro en w6 ⟨rfl, y6⟩; have E6 : Ext w5 w6 := Mod.trans (Mod.drew (Mod.refl _ _)) y6; rw [HQW.out]
        refine hK.out _ _ (KF.out _ E6) ?_
        clear hK K
        (try simp only [Act.put, List.setIfInBounds_toArray, List.set_cons_zero, List.set_cons_succ])
        iterate 9 (refine plan_take (v := ?_) (by rfl) (fun wS hS => ?_) ?_; rotate_left; (focus ((try dsimp only at hS); go_simp; (try with_reducible rfl); done)); (try simp only [Act.put, List.setIfInBounds_toArray, List.set_cons_zero, List.set_cons_succ]))
        refine plan_call (fun K hK => ?_)
        go_simp
        go_at_call 163; refine (rcovers_any _ e v (HEA.out.ext E6) bk a HAI.out).mono ?_; rintro en w7 ⟨rfl, y7⟩; have E7 : Ext w5 w7 := Mod.trans E6 y7; rw [HQC.out]
        refine hK.out _ _ (KF.out _ E7) ?_
        clear hK K
        (try simp only [Act.put, List.setIfInBounds_toArray, List.set_cons_zero, List.set_cons_succ])
        iterate 2 (refine plan_take (v := ?_) (by rfl) (fun wS hS => ?_) ?_; rotate_left; (focus ((try dsimp only at hS); go_simp; (try with_reducible rfl); done)); (try simp only [Act.put, List.setIfInBounds_toArray, List.set_cons_zero, List.set_cons_succ]))
        iterate 7 (refine plan_skip (by rfl) ?_; (try simp only [Act.put, List.setIfInBounds_toArray, List.set_cons_zero, List.set_cons_succ]))
        iterate 2 (refine plan_take (v := ?_) (by rfl) (fun wS hS => ?_) ?_; rotate_left; (focus ((try dsimp only at hS); go_simp; (try with_reducible rfl); done)); (try simp only [Act.put, List.setIfInBounds_toArray, List.set_cons_zero, List.set_cons_succ]))
        iterate 11 (refine plan_skip (by rfl) ?_; (try simp only [Act.put, List.setIfInBounds_toArray, List.set_cons_zero, List.set_cons_succ]))
        (refine plan_take (v := ?_) (by rfl) (fun wS hS => ?_) ?_; rotate_left; (focus ((try dsimp only at hS); go_simp; (try with_reducible rfl); done)); (try simp only [Act.put, List.setIfInBounds_toArray, List.set_cons_zero, List.set_cons_succ]))
        refine plan_nil ?_
        have HNN := Lib.hid (HNO.out (by rw [HPK.out]; first | rfl | simp))
        go_wp2_with fail
        go_roundw
        case rel => exact ⟨k + 1, by omega, by go_num, HNN.out, HX.out.trans (HW5.out.2.2.1.trans E7)⟩
        case measure => simp [intOf]; omega
       | true =>
        cases QH with
        | false =>
         refine wp_region_plan [(0, true), (1, false), (2, true), (3, true), (4, true), (5, true), (6, true), (7, true), (8, true), (9, true), (10, true), (11, false), (12, true), (13, true), (14, true), (15, true), (16, true), (17, true), (18, true), (19, true), (20, true), (21, true), (22, true), (23, true), (24, true), (25, true), (26, true), (27, true), (28, true), (29, true), (30, true), (31, true), (32, true), (33, true), (34, true)] (fun w' => w'.cell? ⟨g0, 0, none⟩ = some ve ∧ w'.cell? ⟨g5, 0, none⟩ = some (.int .i64 (e).ag) ∧ w'.cell? ⟨g5, 1, none⟩ = some (.int .i64 (e).kind) ∧ w'.cell? ⟨g5, 2, none⟩ = some (.bool (e).seq) ∧ w'.cell? ⟨g5, 3, none⟩ = some (.bool (e).nt) ∧ w'.cell? ⟨g5, 4, none⟩ = some (.int .i64 (e).blk) ∧ w'.cell? ⟨g5, 5, none⟩ = some (.int .i64 (e).at_) ∧ w'.cell? ⟨g5, 6, none⟩ = some (.int .i64 (e).size) ∧ w'.cell? ⟨g5, 7, none⟩ = some v.r ∧ w'.cell? ⟨g5, 8, none⟩ = some v.w ∧ w'.cell? ⟨g5, 9, none⟩ = some v.f ∧ w'.cell? ⟨A1.block, A1.off + 4, none⟩ = some (.int .i64 bk) ∧ w'.cell? (at_ rv k) = some (R k) ∧ w'.cell? (at_ (R k) r) = some (.bool false)) (by kernel_rfl) (by kernel_rfl) (by kernel_rfl) (fun _ d _ _ _ h => by cases d <;> exact h) (KF.out _ (Mod.drew (Mod.refl _ _))) ?_
         simp only [planL, getO]
         (refine plan_take (v := ?_) (by rfl) (fun wS hS => ?_) ?_; rotate_left; (focus ((try dsimp only at hS); go_simp; (try with_reducible rfl); done)); (try simp only [Act.put, List.setIfInBounds_toArray, List.set_cons_zero, List.set_cons_succ]))
         refine plan_call (fun K hK => ?_)
         go_simp
         go_at_call 162; refine (rwrites_any _ e v (HEA.out.ext (Mod.drew (Mod.refl _ _)))).mono ?_; rintro en w6 ⟨rfl, y6⟩; have E6 : Ext w5 w6 := Mod.trans (Mod.drew (Mod.refl _ _)) y6; rw [HQW.out]
         refine hK.out _ _ (KF.out _ E6) ?_
         clear hK K
         (try simp only [Act.put, List.setIfInBounds_toArray, List.set_cons_zero, List.set_cons_succ])
         iterate 9 (refine plan_take (v := ?_) (by rfl) (fun wS hS => ?_) ?_; rotate_left; (focus ((try dsimp only at hS); go_simp; (try with_reducible rfl); done)); (try simp only [Act.put, List.setIfInBounds_toArray, List.set_cons_zero, List.set_cons_succ]))
         refine plan_call (fun K hK => ?_)
         go_simp
         go_at_call 163; refine (rcovers_any _ e v (HEA.out.ext E6) bk a HAI.out).mono ?_; rintro en w7 ⟨rfl, y7⟩; have E7 : Ext w5 w7 := Mod.trans E6 y7; rw [HQC.out]
         refine hK.out _ _ (KF.out _ E7) ?_
         clear hK K
         (try simp only [Act.put, List.setIfInBounds_toArray, List.set_cons_zero, List.set_cons_succ])
         iterate 11 (refine plan_take (v := ?_) (by rfl) (fun wS hS => ?_) ?_; rotate_left; (focus ((try dsimp only at hS); go_simp; (try with_reducible rfl); done)); (try simp only [Act.put, List.setIfInBounds_toArray, List.set_cons_zero, List.set_cons_succ]))
         iterate 11 (refine plan_skip (by rfl) ?_; (try simp only [Act.put, List.setIfInBounds_toArray, List.set_cons_zero, List.set_cons_succ]))
         (refine plan_take (v := ?_) (by rfl) (fun wS hS => ?_) ?_; rotate_left; (focus ((try dsimp only at hS); go_simp; (try with_reducible rfl); done)); (try simp only [Act.put, List.setIfInBounds_toArray, List.set_cons_zero, List.set_cons_succ]))
         refine plan_nil ?_
         have HNN := Lib.hid (HNO.out (by rw [HPK.out]; first | rfl | simp))
         go_wp2_with fail
         go_roundw
         case rel => exact ⟨k + 1, by omega, by go_num, HNN.out, HX.out.trans (HW5.out.2.2.1.trans E7)⟩
         case measure => simp [intOf]; omega
        | true =>
         refine wp_region_plan [(0, true), (1, false), (2, true), (3, true), (4, true), (5, true), (6, true), (7, true), (8, true), (9, true), (10, true), (11, false), (12, true), (13, true), (14, true), (15, true), (16, true), (17, true), (18, true), (19, true), (20, true), (21, true), (22, true), (23, true), (24, true), (25, true), (26, true), (27, true), (28, true), (29, true), (30, true), (31, true), (32, true), (33, true), (34, true)] (fun w' => w'.cell? ⟨g0, 0, none⟩ = some ve ∧ w'.cell? ⟨g5, 0, none⟩ = some (.int .i64 (e).ag) ∧ w'.cell? ⟨g5, 1, none⟩ = some (.int .i64 (e).kind) ∧ w'.cell? ⟨g5, 2, none⟩ = some (.bool (e).seq) ∧ w'.cell? ⟨g5, 3, none⟩ = some (.bool (e).nt) ∧ w'.cell? ⟨g5, 4, none⟩ = some (.int .i64 (e).blk) ∧ w'.cell? ⟨g5, 5, none⟩ = some (.int .i64 (e).at_) ∧ w'.cell? ⟨g5, 6, none⟩ = some (.int .i64 (e).size) ∧ w'.cell? ⟨g5, 7, none⟩ = some v.r ∧ w'.cell? ⟨g5, 8, none⟩ = some v.w ∧ w'.cell? ⟨g5, 9, none⟩ = some v.f ∧ w'.cell? ⟨A1.block, A1.off + 4, none⟩ = some (.int .i64 bk) ∧ w'.cell? (at_ rv k) = some (R k) ∧ w'.cell? (at_ (R k) r) = some (.bool true)) (by kernel_rfl) (by kernel_rfl) (by kernel_rfl) (fun _ d _ _ _ h => by cases d <;> exact h) (KF.out _ (Mod.drew (Mod.refl _ _))) ?_
         simp only [planL, getO]
         (refine plan_take (v := ?_) (by rfl) (fun wS hS => ?_) ?_; rotate_left; (focus ((try dsimp only at hS); go_simp; (try with_reducible rfl); done)); (try simp only [Act.put, List.setIfInBounds_toArray, List.set_cons_zero, List.set_cons_succ]))
         refine plan_call (fun K hK => ?_)
         go_simp
         go_at_call 162; refine (rwrites_any _ e v (HEA.out.ext (Mod.drew (Mod.refl _ _)))).mono ?_; rintro en w6 ⟨rfl, y6⟩; have E6 : Ext w5 w6 := Mod.trans (Mod.drew (Mod.refl _ _)) y6; rw [HQW.out]
         refine hK.out _ _ (KF.out _ E6) ?_
         clear hK K
         (try simp only [Act.put, List.setIfInBounds_toArray, List.set_cons_zero, List.set_cons_succ])
         iterate 9 (refine plan_take (v := ?_) (by rfl) (fun wS hS => ?_) ?_; rotate_left; (focus ((try dsimp only at hS); go_simp; (try with_reducible rfl); done)); (try simp only [Act.put, List.setIfInBounds_toArray, List.set_cons_zero, List.set_cons_succ]))
         refine plan_call (fun K hK => ?_)
         go_simp
         go_at_call 163; refine (rcovers_any _ e v (HEA.out.ext E6) bk a HAI.out).mono ?_; rintro en w7 ⟨rfl, y7⟩; have E7 : Ext w5 w7 := Mod.trans E6 y7; rw [HQC.out]
         refine hK.out _ _ (KF.out _ E7) ?_
         clear hK K
         (try simp only [Act.put, List.setIfInBounds_toArray, List.set_cons_zero, List.set_cons_succ])
         iterate 14 (refine plan_take (v := ?_) (by rfl) (fun wS hS => ?_) ?_; rotate_left; (focus ((try dsimp only at hS); go_simp; (try with_reducible rfl); done)); (try simp only [Act.put, List.setIfInBounds_toArray, List.set_cons_zero, List.set_cons_succ]))
         iterate 7 (refine plan_skip (by rfl) ?_; (try simp only [Act.put, List.setIfInBounds_toArray, List.set_cons_zero, List.set_cons_succ]))
         iterate 2 (refine plan_take (v := ?_) (by rfl) (fun wS hS => ?_) ?_; rotate_left; (focus ((try dsimp only at hS); go_simp; (try with_reducible rfl); done)); (try simp only [Act.put, List.setIfInBounds_toArray, List.set_cons_zero, List.set_cons_succ]))
         refine plan_nil ?_
         have HYY := Lib.hid (HYES.out (by rw [HPK.out]; first | rfl | simp))
         go_wp2_with fail
         go_ret
         exact ⟨ret_bool (by rw [HYY.out]), HW.out.2.2.trans (HX.out.trans (HW5.out.2.2.1.trans E7))⟩
    · have hx0' : decide (x < 0) = false := by simpa using hx0
      obtain ⟨y, rfl⟩ := Int.eq_ofNat_of_zero_le (show 0 ≤ x by omega)
      have hyl : y < L.ev.length := by have := HXL.out; omega
      obtain ⟨i3, i4⟩ := HR.out.idx hyl hlt
      obtain ⟨QX, hQX⟩ : ∃ Q, Q = hbB L y k := ⟨_, rfl⟩
      have HPK : Hid (hidP L r (y : Int) a k = (QW && QC && QH && QX)) := Lib.hid (by rw [hpk, hasB_nat hyl hlt, ← hQX, hx0']; simp)
      have KF : Hid (∀ w', Ext w5 w' → w'.cell? ⟨g0, 0, none⟩ = some ve ∧ w'.cell? ⟨g5, 0, none⟩ = some (.int .i64 (e).ag) ∧ w'.cell? ⟨g5, 1, none⟩ = some (.int .i64 (e).kind) ∧ w'.cell? ⟨g5, 2, none⟩ = some (.bool (e).seq) ∧ w'.cell? ⟨g5, 3, none⟩ = some (.bool (e).nt) ∧ w'.cell? ⟨g5, 4, none⟩ = some (.int .i64 (e).blk) ∧ w'.cell? ⟨g5, 5, none⟩ = some (.int .i64 (e).at_) ∧ w'.cell? ⟨g5, 6, none⟩ = some (.int .i64 (e).size) ∧ w'.cell? ⟨g5, 7, none⟩ = some v.r ∧ w'.cell? ⟨g5, 8, none⟩ = some v.w ∧ w'.cell? ⟨g5, 9, none⟩ = some v.f ∧ w'.cell? ⟨A1.block, A1.off + 4, none⟩ = some (.int .i64 bk) ∧ w'.cell? (at_ rv k) = some (R k) ∧ w'.cell? (at_ (R k) r) = some (.bool QH) ∧ w'.cell? (at_ rv y) = some (R y) ∧ w'.cell? (at_ (R y) k) = some (.bool QX)) := Lib.hid fun w' z => by
       obtain ⟨a0, a1, a2, a3, a4, a5, a6, a7, a8, a9, a10, a11, a12, a13⟩ := KFA.out _ z
       obtain ⟨f1, f2, -⟩ := (HR.out.ext (HX.out.trans (HW5.out.2.2.1.trans z))).facts hyl hlt
       rw [← hQX] at f2
       exact ⟨a0, a1, a2, a3, a4, a5, a6, a7, a8, a9, a10, a11, a12, a13, f1, f2⟩
      clear hpk hQW hQC hQH hQX
      cases QW with
      | false =>
       refine wp_region_plan [(0, true), (1, false), (2, true), (3, true), (4, true), (5, true), (6, true), (7, true), (8, true), (9, true), (10, true), (11, false), (12, true), (13, true), (14, true), (15, true), (16, true), (17, true), (18, true), (19, true), (20, true), (21, true), (22, true), (23, true), (24, true), (25, true), (26, true), (27, true), (28, true), (29, true), (30, true), (31, true), (32, true), (33, true), (34, true)] (fun w' => w'.cell? ⟨g0, 0, none⟩ = some ve ∧ w'.cell? ⟨g5, 0, none⟩ = some (.int .i64 (e).ag) ∧ w'.cell? ⟨g5, 1, none⟩ = some (.int .i64 (e).kind) ∧ w'.cell? ⟨g5, 2, none⟩ = some (.bool (e).seq) ∧ w'.cell? ⟨g5, 3, none⟩ = some (.bool (e).nt) ∧ w'.cell? ⟨g5, 4, none⟩ = some (.int .i64 (e).blk) ∧ w'.cell? ⟨g5, 5, none⟩ = some (.int .i64 (e).at_) ∧ w'.cell? ⟨g5, 6, none⟩ = some (.int .i64 (e).size) ∧ w'.cell? ⟨g5, 7, none⟩ = some v.r ∧ w'.cell? ⟨g5, 8, none⟩ = some v.w ∧ w'.cell? ⟨g5, 9, none⟩ = some v.f ∧ w'.cell? ⟨A1.block, A1.off + 4, none⟩ = some (.int .i64 bk) ∧ w'.cell? (at_ rv k) = some (R k) ∧ w'.cell? (at_ (R k) r) = some (.bool QH) ∧ w'.cell? (at_ rv y) = some (R y) ∧ w'.cell? (at_ (R y) k) = some (.bool QX)) (by kernel_rfl) (by kernel_rfl) (by kernel_rfl) (fun _ d _ _ _ h => by cases d <;> exact h) (KF.out _ (Mod.drew (Mod.refl _ _))) ?_
       simp only [planL, getO]
       (refine plan_take (v := ?_) (by rfl) (fun wS hS => ?_) ?_; rotate_left; (focus ((try dsimp only at hS); go_simp; (try with_reducible rfl); done)); (try simp only [Act.put, List.setIfInBounds_toArray, List.set_cons_zero, List.set_cons_succ]))
       refine plan_call (fun K hK => ?_)
       go_simp
       go_at_call 162; refine (rwrites_any _ e v (HEA.out.ext (Mod.drew (Mod.refl _ _)))).mono ?_; rintro en w6 ⟨rfl, y6⟩; have E6 : Ext w5 w6 := Mod.trans (Mod.drew (Mod.refl _ _)) y6; rw [HQW.out]
       refine hK.out _ _ (KF.out _ E6) ?_
       clear hK K
       (try simp only [Act.put, List.setIfInBounds_toArray, List.set_cons_zero, List.set_cons_succ])
       (refine plan_take (v := ?_) (by rfl) (fun wS hS => ?_) ?_; rotate_left; (focus ((try dsimp only at hS); go_simp; (try with_reducible rfl); done)); (try simp only [Act.put, List.setIfInBounds_toArray, List.set_cons_zero, List.set_cons_succ]))
       iterate 9 (refine plan_skip (by rfl) ?_; (try simp only [Act.put, List.setIfInBounds_toArray, List.set_cons_zero, List.set_cons_succ]))
       iterate 2 (refine plan_take (v := ?_) (by rfl) (fun wS hS => ?_) ?_; rotate_left; (focus ((try dsimp only at hS); go_simp; (try with_reducible rfl); done)); (try simp only [Act.put, List.setIfInBounds_toArray, List.set_cons_zero, List.set_cons_succ]))
       iterate 7 (refine plan_skip (by rfl) ?_; (try simp only [Act.put, List.setIfInBounds_toArray, List.set_cons_zero, List.set_cons_succ]))
       iterate 2 (refine plan_take (v := ?_) (by rfl) (fun wS hS => ?_) ?_; rotate_left; (focus ((try dsimp only at hS); go_simp; (try with_reducible rfl); done)); (try simp only [Act.put, List.setIfInBounds_toArray, List.set_cons_zero, List.set_cons_succ]))
       iterate 11 (refine plan_skip (by rfl) ?_; (try simp only [Act.put, List.setIfInBounds_toArray, List.set_cons_zero, List.set_cons_succ]))
       (refine plan_take (v := ?_) (by rfl) (fun wS hS => ?_) ?_; rotate_left; (focus ((try dsimp only at hS); go_simp; (try with_reducible rfl); done)); (try simp only [Act.put, List.setIfInBounds_toArray, List.set_cons_zero, List.set_cons_succ]))
       refine plan_nil ?_
       have HNN := Lib.hid (HNO.out (by rw [HPK.out]; first | rfl | simp))
       go_wp2_with fail
       go_roundw
       case rel => exact ⟨k + 1, by omega, by go_num, HNN.out, HX.out.trans (HW5.out.2.2.1.trans E6)⟩
       case measure => simp [intOf]; omega
      | true =>
       cases QC with
       | false =>
        refine wp_region_plan [(0, true), (1, false), (2, true), (3, true), (4, true), (5, true), (6, true), (7, true), (8, true), (9, true), (10, true), (11, false), (12, true), (13, true), (14, true), (15, true), (16, true), (17, true), (18, true), (19, true), (20, true), (21, true), (22, true), (23, true), (24, true), (25, true), (26, true), (27, true), (28, true), (29, true), (30, true), (31, true), (32, true), (33, true), (34, true)] (fun w' => w'.cell? ⟨g0, 0, none⟩ = some ve ∧ w'.cell? ⟨g5, 0, none⟩ = some (.int .i64 (e).ag) ∧ w'.cell? ⟨g5, 1, none⟩ = some (.int .i64 (e).kind) ∧ w'.cell? ⟨g5, 2, none⟩ = some (.bool (e).seq) ∧ w'.cell? ⟨g5, 3, none⟩ = some (.bool (e).nt) ∧ w'.cell? ⟨g5, 4, none⟩ = some (.int .i64 (e).blk) ∧ w'.cell? ⟨g5, 5, none⟩ = some (.int .i64 (e).at_) ∧ w'.cell? ⟨g5, 6, none⟩ = some (.int .i64 (e).size) ∧ w'.cell? ⟨g5, 7, none⟩ = some v.r ∧ w'.cell? ⟨g5, 8, none⟩ = some v.w ∧ w'.cell? ⟨g5, 9, none⟩ = some v.f ∧ w'.cell? ⟨A1.block, A1.off + 4, none⟩ = some (.int .i64 bk) ∧ w'.cell? (at_ rv k) = some (R k) ∧ w'.cell? (at_ (R k) r) = some (.bool QH) ∧ w'.cell? (at_ rv y) = some (R y) ∧ w'.cell? (at_ (R y) k) = some (.bool QX)) (by kernel_rfl) (by kernel_rfl) (by kernel_rfl) (fun _ d _ _ _ h => by cases d <;> exact h) (KF.out _ (Mod.drew (Mod.refl _ _))) ?_
        simp only [planL, getO]
        (refine plan_take (v := ?_) (by rfl) (fun wS hS => ?_) ?_; rotate_left; (focus ((try dsimp only at hS); go_simp; (try with_reducible rfl); done)); (try simp only [Act.put, List.setIfInBounds_toArray, List.set_cons_zero, List.set_cons_succ]))
        refine plan_call (fun K hK => ?_)
        go_simp
        go_at_call 162; refine (rwrites_any _ e v (HEA.out.ext (Mod.drew (Mod.refl _ _)))).mono ?_; rintro en w6 ⟨rfl, y6⟩; have E6 : Ext w5 w6 := Mod.trans (Mod.drew (Mod.refl _ _)) y6; rw [HQW.out]
        refine hK.out _ _ (KF.out _ E6) ?_
        clear hK K
        (try simp only [Act.put, List.setIfInBounds_toArray, List.set_cons_zero, List.set_cons_succ])
        iterate 9 (refine plan_take (v := ?_) (by rfl) (fun wS hS => ?_) ?_; rotate_left; (focus ((try dsimp only at hS); go_simp; (try with_reducible rfl); done)); (try simp only [Act.put, List.setIfInBounds_toArray, List.set_cons_zero, List.set_cons_succ]))
        refine plan_call (fun K hK => ?_)
        go_simp
        go_at_call 163; refine (rcovers_any _ e v (HEA.out.ext E6) bk a HAI.out).mono ?_; rintro en w7 ⟨rfl, y7⟩; have E7 : Ext w5 w7 := Mod.trans E6 y7; rw [HQC.out]
        refine hK.out _ _ (KF.out _ E7) ?_
        clear hK K
        (try simp only [Act.put, List.setIfInBounds_toArray, List.set_cons_zero, List.set_cons_succ])
        iterate 2 (refine plan_take (v := ?_) (by rfl) (fun wS hS => ?_) ?_; rotate_left; (focus ((try dsimp only at hS); go_simp; (try with_reducible rfl); done)); (try simp only [Act.put, List.setIfInBounds_toArray, List.set_cons_zero, List.set_cons_succ]))
        iterate 7 (refine plan_skip (by rfl) ?_; (try simp only [Act.put, List.setIfInBounds_toArray, List.set_cons_zero, List.set_cons_succ]))
        iterate 2 (refine plan_take (v := ?_) (by rfl) (fun wS hS => ?_) ?_; rotate_left; (focus ((try dsimp only at hS); go_simp; (try with_reducible rfl); done)); (try simp only [Act.put, List.setIfInBounds_toArray, List.set_cons_zero, List.set_cons_succ]))
        iterate 11 (refine plan_skip (by rfl) ?_; (try simp only [Act.put, List.setIfInBounds_toArray, List.set_cons_zero, List.set_cons_succ]))
        (refine plan_take (v := ?_) (by rfl) (fun wS hS => ?_) ?_; rotate_left; (focus ((try dsimp only at hS); go_simp; (try with_reducible rfl); done)); (try simp only [Act.put, List.setIfInBounds_toArray, List.set_cons_zero, List.set_cons_succ]))
        refine plan_nil ?_
        have HNN := Lib.hid (HNO.out (by rw [HPK.out]; first | rfl | simp))
        go_wp2_with fail
        go_roundw
        case rel => exact ⟨k + 1, by omega, by go_num, HNN.out, HX.out.trans (HW5.out.2.2.1.trans E7)⟩
        case measure => simp [intOf]; omega
       | true =>
        cases QH with
        | false =>
         refine wp_region_plan [(0, true), (1, false), (2, true), (3, true), (4, true), (5, true), (6, true), (7, true), (8, true), (9, true), (10, true), (11, false), (12, true), (13, true), (14, true), (15, true), (16, true), (17, true), (18, true), (19, true), (20, true), (21, true), (22, true), (23, true), (24, true), (25, true), (26, true), (27, true), (28, true), (29, true), (30, true), (31, true), (32, true), (33, true), (34, true)] (fun w' => w'.cell? ⟨g0, 0, none⟩ = some ve ∧ w'.cell? ⟨g5, 0, none⟩ = some (.int .i64 (e).ag) ∧ w'.cell? ⟨g5, 1, none⟩ = some (.int .i64 (e).kind) ∧ w'.cell? ⟨g5, 2, none⟩ = some (.bool (e).seq) ∧ w'.cell? ⟨g5, 3, none⟩ = some (.bool (e).nt) ∧ w'.cell? ⟨g5, 4, none⟩ = some (.int .i64 (e).blk) ∧ w'.cell? ⟨g5, 5, none⟩ = some (.int .i64 (e).at_) ∧ w'.cell? ⟨g5, 6, none⟩ = some (.int .i64 (e).size) ∧ w'.cell? ⟨g5, 7, none⟩ = some v.r ∧ w'.cell? ⟨g5, 8, none⟩ = some v.w ∧ w'.cell? ⟨g5, 9, none⟩ = some v.f ∧ w'.cell? ⟨A1.block, A1.off + 4, none⟩ = some (.int .i64 bk) ∧ w'.cell? (at_ rv k) = some (R k) ∧ w'.cell? (at_ (R k) r) = some (.bool false) ∧ w'.cell? (at_ rv y) = some (R y) ∧ w'.cell? (at_ (R y) k) = some (.bool QX)) (by kernel_rfl) (by kernel_rfl) (by kernel_rfl) (fun _ d _ _ _ h => by cases d <;> exact h) (KF.out _ (Mod.drew (Mod.refl _ _))) ?_
         simp only [planL, getO]
         (refine plan_take (v := ?_) (by rfl) (fun wS hS => ?_) ?_; rotate_left; (focus ((try dsimp only at hS); go_simp; (try with_reducible rfl); done)); (try simp only [Act.put, List.setIfInBounds_toArray, List.set_cons_zero, List.set_cons_succ]))
         refine plan_call (fun K hK => ?_)
         go_simp
         go_at_call 162; refine (rwrites_any _ e v (HEA.out.ext (Mod.drew (Mod.refl _ _)))).mono ?_; rintro en w6 ⟨rfl, y6⟩; have E6 : Ext w5 w6 := Mod.trans (Mod.drew (Mod.refl _ _)) y6; rw [HQW.out]
         refine hK.out _ _ (KF.out _ E6) ?_
         clear hK K
         (try simp only [Act.put, List.setIfInBounds_toArray, List.set_cons_zero, List.set_cons_succ])
         iterate 9 (refine plan_take (v := ?_) (by rfl) (fun wS hS => ?_) ?_; rotate_left; (focus ((try dsimp only at hS); go_simp; (try with_reducible rfl); done)); (try simp only [Act.put, List.setIfInBounds_toArray, List.set_cons_zero, List.set_cons_succ]))
         refine plan_call (fun K hK => ?_)
         go_simp
         go_at_call 163; refine (rcovers_any _ e v (HEA.out.ext E6) bk a HAI.out).mono ?_; rintro en w7 ⟨rfl, y7⟩; have E7 : Ext w5 w7 := Mod.trans E6 y7; rw [HQC.out]
         refine hK.out _ _ (KF.out _ E7) ?_
         clear hK K
         (try simp only [Act.put, List.setIfInBounds_toArray, List.set_cons_zero, List.set_cons_succ])
         iterate 11 (refine plan_take (v := ?_) (by rfl) (fun wS hS => ?_) ?_; rotate_left; (focus ((try dsimp only at hS); go_simp; (try with_reducible rfl); done)); (try simp only [Act.put, List.setIfInBounds_toArray, List.set_cons_zero, List.set_cons_succ]))
         iterate 11 (refine plan_skip (by rfl) ?_; (try simp only [Act.put, List.setIfInBounds_toArray, List.set_cons_zero, List.set_cons_succ]))
         (refine plan_take (v := ?_) (by rfl) (fun wS hS => ?_) ?_; rotate_left; (focus ((try dsimp only at hS); go_simp; (try with_reducible rfl); done)); (try simp only [Act.put, List.setIfInBounds_toArray, List.set_cons_zero, List.set_cons_succ]))
         refine plan_nil ?_
         have HNN := Lib.hid (HNO.out (by rw [HPK.out]; first | rfl | simp))
         go_wp2_with fail
         go_roundw
         case rel => exact ⟨k + 1, by omega, by go_num, HNN.out, HX.out.trans (HW5.out.2.2.1.trans E7)⟩
         case measure => simp [intOf]; omega
        | true =>
         cases QX with
         | false =>
          refine wp_region_plan [(0, true), (1, false), (2, true), (3, true), (4, true), (5, true), (6, true), (7, true), (8, true), (9, true), (10, true), (11, false), (12, true), (13, true), (14, true), (15, true), (16, true), (17, true), (18, true), (19, true), (20, true), (21, true), (22, true), (23, true), (24, true), (25, true), (26, true), (27, true), (28, true), (29, true), (30, true), (31, true), (32, true), (33, true), (34, true)] (fun w' => w'.cell? ⟨g0, 0, none⟩ = some ve ∧ w'.cell? ⟨g5, 0, none⟩ = some (.int .i64 (e).ag) ∧ w'.cell? ⟨g5, 1, none⟩ = some (.int .i64 (e).kind) ∧ w'.cell? ⟨g5, 2, none⟩ = some (.bool (e).seq) ∧ w'.cell? ⟨g5, 3, none⟩ = some (.bool (e).nt) ∧ w'.cell? ⟨g5, 4, none⟩ = some (.int .i64 (e).blk) ∧ w'.cell? ⟨g5, 5, none⟩ = some (.int .i64 (e).at_) ∧ w'.cell? ⟨g5, 6, none⟩ = some (.int .i64 (e).size) ∧ w'.cell? ⟨g5, 7, none⟩ = some v.r ∧ w'.cell? ⟨g5, 8, none⟩ = some v.w ∧ w'.cell? ⟨g5, 9, none⟩ = some v.f ∧ w'.cell? ⟨A1.block, A1.off + 4, none⟩ = some (.int .i64 bk) ∧ w'.cell? (at_ rv k) = some (R k) ∧ w'.cell? (at_ (R k) r) = some (.bool true) ∧ w'.cell? (at_ rv y) = some (R y) ∧ w'.cell? (at_ (R y) k) = some (.bool false)) (by kernel_rfl) (by kernel_rfl) (by kernel_rfl) (fun _ d _ _ _ h => by cases d <;> exact h) (KF.out _ (Mod.drew (Mod.refl _ _))) ?_
          simp only [planL, getO]
          (refine plan_take (v := ?_) (by rfl) (fun wS hS => ?_) ?_; rotate_left; (focus ((try dsimp only at hS); go_simp; (try with_reducible rfl); done)); (try simp only [Act.put, List.setIfInBounds_toArray, List.set_cons_zero, List.set_cons_succ]))
          refine plan_call (fun K hK => ?_)
          go_simp
          go_at_call 162; refine (rwrites_any _ e v (HEA.out.ext (Mod.drew (Mod.refl _ _)))).mono ?_; rintro en w6 ⟨rfl, y6⟩; have E6 : Ext w5 w6 := Mod.trans (Mod.drew (Mod.refl _ _)) y6; rw [HQW.out]
          refine hK.out _ _ (KF.out _ E6) ?_
          clear hK K
          (try simp only [Act.put, List.setIfInBounds_toArray, List.set_cons_zero, List.set_cons_succ])
          iterate 9 (refine plan_take (v := ?_) (by rfl) (fun wS hS => ?_) ?_; rotate_left; (focus ((try dsimp only at hS); go_simp; (try with_reducible rfl); done)); (try simp only [Act.put, List.setIfInBounds_toArray, List.set_cons_zero, List.set_cons_succ]))
          refine plan_call (fun K hK => ?_)
          go_simp
          go_at_call 163; refine (rcovers_any _ e v (HEA.out.ext E6) bk a HAI.out).mono ?_; rintro en w7 ⟨rfl, y7⟩; have E7 : Ext w5 w7 := Mod.trans E6 y7; rw [HQC.out]
          refine hK.out _ _ (KF.out _ E7) ?_
          clear hK K
          (try simp only [Act.put, List.setIfInBounds_toArray, List.set_cons_zero, List.set_cons_succ])
          iterate 23 (refine plan_take (v := ?_) (by rfl) (fun wS hS => ?_) ?_; rotate_left; (focus ((try dsimp only at hS); go_simp; (try with_reducible rfl); done)); (try simp only [Act.put, List.setIfInBounds_toArray, List.set_cons_zero, List.set_cons_succ]))
          refine plan_nil ?_
          have HNN := Lib.hid (HNO.out (by rw [HPK.out]; first | rfl | simp))
          go_wp2_with fail
          go_roundw
          case rel => exact ⟨k + 1, by omega, by go_num, HNN.out, HX.out.trans (HW5.out.2.2.1.trans E7)⟩
          case measure => simp [intOf]; omega
         | true =>
          refine wp_region_plan [(0, true), (1, false), (2, true), (3, true), (4, true), (5, true), (6, true), (7, true), (8, true), (9, true), (10, true), (11, false), (12, true), (13, true), (14, true), (15, true), (16, true), (17, true), (18, true), (19, true), (20, true), (21, true), (22, true), (23, true), (24, true), (25, true), (26, true), (27, true), (28, true), (29, true), (30, true), (31, true), (32, true), (33, true), (34, true)] (fun w' => w'.cell? ⟨g0, 0, none⟩ = some ve ∧ w'.cell? ⟨g5, 0, none⟩ = some (.int .i64 (e).ag) ∧ w'.cell? ⟨g5, 1, none⟩ = some (.int .i64 (e).kind) ∧ w'.cell? ⟨g5, 2, none⟩ = some (.bool (e).seq) ∧ w'.cell? ⟨g5, 3, none⟩ = some (.bool (e).nt) ∧ w'.cell? ⟨g5, 4, none⟩ = some (.int .i64 (e).blk) ∧ w'.cell? ⟨g5, 5, none⟩ = some (.int .i64 (e).at_) ∧ w'.cell? ⟨g5, 6, none⟩ = some (.int .i64 (e).size) ∧ w'.cell? ⟨g5, 7, none⟩ = some v.r ∧ w'.cell? ⟨g5, 8, none⟩ = some v.w ∧ w'.cell? ⟨g5, 9, none⟩ = some v.f ∧ w'.cell? ⟨A1.block, A1.off + 4, none⟩ = some (.int .i64 bk) ∧ w'.cell? (at_ rv k) = some (R k) ∧ w'.cell? (at_ (R k) r) = some (.bool true) ∧ w'.cell? (at_ rv y) = some (R y) ∧ w'.cell? (at_ (R y) k) = some (.bool true)) (by kernel_rfl) (by kernel_rfl) (by kernel_rfl) (fun _ d _ _ _ h => by cases d <;> exact h) (KF.out _ (Mod.drew (Mod.refl _ _))) ?_
          simp only [planL, getO]
          (refine plan_take (v := ?_) (by rfl) (fun wS hS => ?_) ?_; rotate_left; (focus ((try dsimp only at hS); go_simp; (try with_reducible rfl); done)); (try simp only [Act.put, List.setIfInBounds_toArray, List.set_cons_zero, List.set_cons_succ]))
          refine plan_call (fun K hK => ?_)
          go_simp
          go_at_call 162; refine (rwrites_any _ e v (HEA.out.ext (Mod.drew (Mod.refl _ _)))).mono ?_; rintro en w6 ⟨rfl, y6⟩; have E6 : Ext w5 w6 := Mod.trans (Mod.drew (Mod.refl _ _)) y6; rw [HQW.out]
          refine hK.out _ _ (KF.out _ E6) ?_
          clear hK K
          (try simp only [Act.put, List.setIfInBounds_toArray, List.set_cons_zero, List.set_cons_succ])
          iterate 9 (refine plan_take (v := ?_) (by rfl) (fun wS hS => ?_) ?_; rotate_left; (focus ((try dsimp only at hS); go_simp; (try with_reducible rfl); done)); (try simp only [Act.put, List.setIfInBounds_toArray, List.set_cons_zero, List.set_cons_succ]))
          refine plan_call (fun K hK => ?_)
          go_simp
          go_at_call 163; refine (rcovers_any _ e v (HEA.out.ext E6) bk a HAI.out).mono ?_; rintro en w7 ⟨rfl, y7⟩; have E7 : Ext w5 w7 := Mod.trans E6 y7; rw [HQC.out]
          refine hK.out _ _ (KF.out _ E7) ?_
          clear hK K
          (try simp only [Act.put, List.setIfInBounds_toArray, List.set_cons_zero, List.set_cons_succ])
          iterate 23 (refine plan_take (v := ?_) (by rfl) (fun wS hS => ?_) ?_; rotate_left; (focus ((try dsimp only at hS); go_simp; (try with_reducible rfl); done)); (try simp only [Act.put, List.setIfInBounds_toArray, List.set_cons_zero, List.set_cons_succ]))
          refine plan_nil ?_
          have HYY := Lib.hid (HYES.out (by rw [HPK.out]; first | rfl | simp))
          go_wp2_with fail
          go_ret
          exact ⟨ret_bool (by rw [HYY.out]), HW.out.2.2.trans (HX.out.trans (HW5.out.2.2.1.trans E7))⟩
  · have hlt' : ¬ (k : Int) < (L.ev.length : Int) := by omega
    have HF : Hid (B = false) := Lib.hid (by
     rw [HB.out]; exact anyB_none.2 fun j hj => HN.out j (by omega))
    go_wp2_with fail
    go_ret
    exact ⟨ret_bool (by rw [HF.out]), HW.out.2.2.trans HX.out⟩
end Go.Proofs.YtbhocahmhmafmaaGreat
