/-
  ModelOrders: the walk of renlaw16.ModelOrders. No condition.
-/
import Derived.Test.YthmkcgiiakinmaaModFst
import Derived.Test.YthmkcgiiakinmaaModOrdLaw
import Derived.Test.YthmkcgiiakinmaaBaseIn
namespace Go.Ren
/-- While all is right so far: is the order right? -/
theorem good_iff {L : Lg} (hm : mayL L = true) {l : List Int} (h : ∀ j, j < l.length → plStep L.ev.length l j = true) : ordB L l = (decide (l.length = L.ev.length) && allN (noBack L l) l.length) := by
  by_cases hl : l.length = L.ev.length
  · have ho : OrdOf L.ev.length l := plOk_ord.1 (by unfold plOk; rw [Bool.and_eq_true, decide_eq_true_eq, allN_iff]; exact ⟨hl, h⟩)
    rw [Bool.eq_iff_iff, ord_iff hm, Bool.and_eq_true, decide_eq_true_eq, hl]
    exact ⟨fun k => ⟨rfl, k.2⟩, fun k => ⟨ho, k.2⟩⟩
  · have e : ordB L l = false := by unfold ordB plOk; simp [hl]
    rw [e]; simp [hl]
theorem bad_ord {L : Lg} {l : List Int} {i : Nat} (hi : i < l.length) (h : plStep L.ev.length l i = false) : ordB L l = false := by
  unfold ordB
  rw [plOk_false hi h]; simp
def metF (l : List Int) (i k : Nat) : Value := .bool (decide (posK l i k ≠ -1))
end Go.Ren
namespace Go.Proofs.Ythmkcgiiakinmaa
open Go.Ren Go.RowKit
set_option linter.unusedVariables false
theorem IBo : EInfo Try.prog 64 4 1 1 (.bool false) := ⟨Try.underlying64, by kernel_rfl, rfl, by decide⟩
set_option maxRecDepth 100000 in
set_option maxHeartbeats 4000000 in
theorem modelOrders_all (w : World) (ve vp : Value) (V : Nat → Vs) (L : Lg) (h : LogIn w ve vp V L) (ov : Value) (l : List Int) (hov : IntsAt w ov l) (at0 : Int) :
    Calls Try.prog 10 #[.agg #[ve, vp], ov, .int .i64 at0] w (FPost true w) := by
  have lo := hov.sl.run_len (P := Try.prog) II.und 3
  have IO := Lib.hid (hov.sl.run_idx (P := Try.prog) II.und II.size .i64)
  have HOV := Lib.hid hov
  clear hov
  have q1 := Sl.cells_eq h.row
  have q2 := Sl.cells_eq h.prow
  have s1 := Sl.run_st (P := Try.prog) h.row
  have s2 := Sl.run_st (P := Try.prog) h.prow
  obtain ⟨w0, hw0⟩ : ∃ w0, w0 = w.alloc (.cells #[ve, vp] 25) := ⟨_, rfl⟩
  obtain ⟨g0, hg0⟩ : ∃ g, g = w.heap.size := ⟨_, rfl⟩
  have x0 : Ext w w0 := by rw [hw0]; exact (Mod.refl _ _).alloc _
  have b0 : LogBox w0 g0 ve vp := ⟨by rw [hw0, hg0]; exact heap_alloc_new _ _⟩
  have HW := Lib.hid (And.intro hw0 (And.intro hg0 x0))
  have KE : Hid (∀ w', Ext w0 w' → LogIn w' ve vp V L ∧ LogBox w' g0 ve vp) := Lib.hid fun w' x => ⟨h.ext (x0.trans x), b0.ext x⟩
  have HI := Lib.hid (h.row.run_idx (P := Try.prog) IEv.und IEv.size .i64)
  have HJ := Lib.hid (h.prow.run_idx (P := Try.prog) IP.und IP.size .i64)
  have l1 := h.row.run_len (P := Try.prog) IEv.und 3
  have l2 := h.prow.run_len (P := Try.prog) IP.und 3
  clear hw0 hg0 x0 b0 h
  go_enter Try.func10, Try.ntmps10
  go_upto_region 1 with fail
  rw [← HW.out.1, ← HW.out.2.1]
  clear s1 s2
  go_wp2_with fail
  refine (first16_any _).mono ?_
  rintro e w1 ⟨rfl, x1⟩
  obtain ⟨c0, c1⟩ := (KE.out _ x1).2.cells
  go_wp2_with fail
  refine (few_any _ _ _ V L (KE.out _ x1).1 40 (by decide)).mono ?_
  rintro r w2 ⟨⟨r, rfl, hf⟩, y2⟩
  have X2 : Ext w0 w2 := x1.trans y2
  clear c0 c1
  obtain ⟨c0, c1⟩ := (KE.out _ X2).2.cells
  cases r with
  | false =>
    clear hf
    go_wp2_with fail
    refine (first16_any _).mono ?_
    rintro e w3 ⟨rfl, x3⟩
    go_wp2_with fail
    go_ret
    exact ⟨rfl, (HW.out.2.2.trans X2).trans x3⟩
  | true =>
    have HS : Hid (L.ev.length ≤ 40 ∧ L.pr.length ≤ 40 ∧ ∀ i, i < L.ev.length → (evn L.ev i).rd.length ≤ 20000 ∧ (evn L.ev i).wr.length ≤ 20000 ∧ (evn L.ev i).fr.length ≤ 20000) := Lib.hid (hf rfl)
    have hle : (L.ev.length : Int) ≤ 40 := by have := HS.out.1; omega
    have hle2 : (L.pr.length : Int) ≤ 40 := by have := HS.out.2.1; omega
    clear hf
    by_cases hol : (40 : Int) < (l.length : Int)
    case pos =>
      go_wp2_with fail
      refine (first16_any _).mono ?_
      rintro e wf ⟨rfl, yf⟩
      go_wp2_with fail
      go_ret
      exact ⟨rfl, HW.out.2.2.trans (X2.trans yf)⟩
    have HX2 := Lib.hid X2
    go_wp2_with fail
    refine (may_any _ ve vp V L (KE.out _ HX2.out).1).mono ?_
    rintro e w3 ⟨rfl, y3⟩
    have HX3 := Lib.hid (HX2.out.trans y3)
    clear c0 c1 y3 X2
    cases hm : mayL L with
    | false =>
      clear hm
      go_wp2_with fail
      refine (first16_any _).mono ?_
      rintro e wf ⟨rfl, yf⟩
      go_wp2_with fail
      go_ret
      exact ⟨rfl, HW.out.2.2.trans (HX3.out.trans yf)⟩
    | true =>
      have HM := Lib.hid hm
      have hl40 : (l.length : Int) ≤ 40 := by omega
      have HLE : Hid (L.ev.length ≤ 64) := Lib.hid (by have := HS.out.1; omega)
      obtain ⟨c0, c1⟩ := (KE.out _ HX3.out).2.cells
      clear hm hol
      go_wp2_with fail
      refine (rbefore_any _ ve vp V L (KE.out _ HX3.out).1 HLE.out).mono ?_
      rintro e w4 h4
      obtain ⟨pr, rfl, r4, y4⟩ := rpost_is h4
      rw [relN_may HM.out] at r4
      have HR4 := Lib.hid r4
      have HX4 := Lib.hid (HX3.out.trans y4)
      clear h4 r4 y4 c0 c1
      obtain ⟨c0, c1⟩ := (KE.out _ HX4.out).2.cells
      obtain ⟨n, hn⟩ : ∃ n, n = L.ev.length := ⟨_, rfl⟩
      rw [← hn] at HR4
      have HNN := Lib.hid hn
      rw [← hn] at l1 hle
      have m1 := run_make_row' (P := Try.prog) 64 4 (.bool false) 1 IBo.und IBo.info rfl .i64 .i64 n (by omega) (by omega)
      clear hn
      go_upto_region 10 with fail
      obtain ⟨w5, hw5⟩ : ∃ w5, w5 = w4.alloc (.cells (madeCells #[.bool false] n) 4) := ⟨_, rfl⟩
      obtain ⟨mv, hmv⟩ : ∃ v : Value, v = .slice (some ⟨w4.heap.size, 0, none⟩) n n := ⟨_, rfl⟩
      rw [← hw5, ← hmv]
      have x5 : Ext w4 w5 := by rw [hw5]; exact (Mod.refl _ _).alloc _
      have o5 : Own w5 4 1 mv n ((List.range n).map (metF l 0)) := by
        have h1 : w5.heap[w4.heap.size]? = some (.cells (madeCells #[.bool false] n) 4 (0, 0)) := by rw [hw5]; exact heap_alloc_new _ _
        have h2 := Own.made_at h1 (by simp [maxLen]; omega)
        rw [hmv]
        have e : (List.range n).map (metF l 0) = List.replicate n (.bool false) := by
          apply List.ext_getElem?
          intro j
          by_cases hj : j < n
          · simp [hj, metF, posK, fstN]
          · simp [hj]
        rw [e]; exact h2
      have hmb : mv.ownBlock = some w4.heap.size := by rw [hmv]; rfl
      have HMV := Lib.hid (And.intro o5 hmb)
      have HX5' : Hid (Ext w4 w5) := Lib.hid x5
      have HX5 : Hid (Ext w0 w5) := Lib.hid (HX4.out.trans x5)
      have HR : Hid (∀ w', Ext w5 w' → RelIs w' (.pointer (some ⟨pr, 0, none⟩)) n (hbB L)) := Lib.hid fun w' x => HR4.out.ext (x5.trans x)
      have IM := Lib.hid (o5.sl.run_idx (P := Try.prog) IBo.und IBo.size .i64)
      obtain ⟨LN, hLN⟩ : ∃ b, b = decide (l.length = n) := ⟨_, rfl⟩
      have hLN' : ((l.length : Int) == (n : Int)) = LN := by rw [hLN, Bool.eq_iff_iff, beq_iff_eq, decide_eq_true_eq]; omega
      have HLN : Hid (LN = decide (l.length = L.ev.length)) := Lib.hid (by rw [hLN, ← HNN.out])
      -- what is written in the row alone turns nothing that lay
      have KX : Hid (∀ w', Mod (fun q => mv.ownBlock = some q) w5 w' → Ext w4 w') := Lib.hid fun w' M => x5.trans' M (fun q hq => .inr (by rw [hmb] at hq; simp at hq; omega))
      clear hw5 hmv x5 o5 hmb m1 hLN c0 c1
      go_wp2_with fail
      clear hLN'
      go_loopw [10, 11] (fun s10 s11 wr => ∃ i : Nat, i ≤ l.length ∧ s10 = .bool (LN && allN (noBack L l) i) ∧ s11 = .int .i64 (i : Int) ∧ (∀ j, j < i → plStep n l j = true) ∧ Own wr 4 1 mv n ((List.range n).map (metF l i)) ∧ Mod (fun q => mv.ownBlock = some q) w5 wr) (fun _ s _ => l.length - (intOf s).toNat)
      case atStart => exact ⟨0, Nat.zero_le _, by simp [allN], rfl, fun j hj => absurd hj (Nat.not_lt_zero _), HMV.out.1, Mod.refl _ _⟩
      case round =>
        obtain ⟨i, hi, rfl, rfl, hst, ho, md⟩ := hrel
        have H := Lib.hid (And.intro ho (And.intro md hst))
        have X4 : Hid (Ext w4 wr) := Lib.hid (KX.out _ md)
        obtain ⟨G, hG⟩ : ∃ G, G = (LN && allN (noBack L l) i) := ⟨_, rfl⟩
        rw [← hG]
        have HG := Lib.hid hG.symm
        by_cases hil : i < l.length
        · have hil' : (i : Int) < (l.length : Int) := by omega
          have j0 := IO.out i hil
          simp only [Nat.mul_one] at j0
          have cF := (HOV.out.ext (HW.out.2.2.trans (HX4.out.trans X4.out))).cell hil
          obtain ⟨z, hz⟩ : ∃ z, z = l[i] := ⟨_, rfl⟩
          have hzd : l.getD i (-1) = z := by rw [hz]; simp [hil]
          rw [← hz] at cF
          have HZ := Lib.hid hzd
          have HNO : Hid (plStep n l i = false → ordB L l = false) := Lib.hid fun hx => bad_ord hil (by rw [← HNN.out]; exact hx)
          clear hz hzd hG
          rcases (by omega : z < 0 ∨ (0 ≤ z ∧ (n : Int) ≤ z) ∨ (0 ≤ z ∧ z < (n : Int))) with g | ⟨g, g'⟩ | ⟨g, g'⟩
          case inr.inr =>
            obtain ⟨q, rfl⟩ := Int.eq_ofNat_of_zero_le g
            have hqn : q < n := by omega
            have g1 : ¬ (q : Int) < 0 := by omega
            have g2 : ¬ (n : Int) ≤ (q : Int) := by omega
            have i0 := IM.out q hqn
            simp only [Nat.mul_one] at i0
            have c0 := ho.sl.cell q (metF l i q) (by simp [hqn])
            unfold metF at c0
            have f0 := ho.frozen q (by omega)
            obtain ⟨MB, hMB⟩ : ∃ b, b = decide (posK l i q ≠ -1) := ⟨_, rfl⟩
            rw [← hMB] at c0
            have HMB := Lib.hid hMB
            clear ho md hst hMB g
            cases MB with
            | true =>
              have HOF : Hid (ordB L l = false) := Lib.hid (HNO.out (by
                unfold plStep
                rw [HZ.out, Int.toNat_natCast]
                have := HMB.out
                simp at this ⊢
                intro _; exact this))
              have HOI : Hid (ordI L l = 0) := Lib.hid (by unfold ordI; rw [HOF.out]; rfl)
              obtain ⟨c3, c4⟩ := (KE.out _ (HX4.out.trans X4.out)).2.cells
              go_wp2_with fail
              refine (ordered_any _ ve vp V L (KE.out _ (HX4.out.trans X4.out)).1 HLE.out ov l (HOV.out.ext (HW.out.2.2.trans (HX4.out.trans X4.out)))).mono ?_
              rintro e wo ⟨rfl, yo⟩
              rw [HOI.out]
              clear c3 c4
              go_upto_region 23 with fail
              refine wp_region_plan [(0, true), (1, true), (2, true), (3, true), (4, true), (5, true), (6, true), (7, true), (8, true), (9, true), (10, true), (11, true), (12, true), (13, true), (14, true), (15, true), (16, true), (17, true), (18, true), (19, true), (20, true), (21, true), (22, true), (23, false), (24, true)] (fun w' => True) (by kernel_rfl) (by kernel_rfl) (by kernel_rfl) (fun _ d _ _ _ h => by cases d <;> exact h) (trivial) ?_
              simp only [planL, getO]
              iterate 3 (refine plan_take (v := ?_) (by rfl) (fun wS hS => ?_) ?_; rotate_left; (focus ((try dsimp only at hS); go_simp; (try with_reducible rfl); done)); (try simp only [Act.put, List.setIfInBounds_toArray, List.set_cons_zero, List.set_cons_succ]))
              iterate 2 (refine plan_skip (by rfl) ?_; (try simp only [Act.put, List.setIfInBounds_toArray, List.set_cons_zero, List.set_cons_succ]))
              iterate 2 (refine plan_take (v := ?_) (by rfl) (fun wS hS => ?_) ?_; rotate_left; (focus ((try dsimp only at hS); go_simp; (try with_reducible rfl); done)); (try simp only [Act.put, List.setIfInBounds_toArray, List.set_cons_zero, List.set_cons_succ]))
              iterate 4 (refine plan_skip (by rfl) ?_; (try simp only [Act.put, List.setIfInBounds_toArray, List.set_cons_zero, List.set_cons_succ]))
              iterate 2 (refine plan_take (v := ?_) (by rfl) (fun wS hS => ?_) ?_; rotate_left; (focus ((try dsimp only at hS); go_simp; (try with_reducible rfl); done)); (try simp only [Act.put, List.setIfInBounds_toArray, List.set_cons_zero, List.set_cons_succ]))
              iterate 10 (refine plan_skip (by rfl) ?_; (try simp only [Act.put, List.setIfInBounds_toArray, List.set_cons_zero, List.set_cons_succ]))
              (refine plan_skip (by rfl) ?_; (try simp only [Act.put, List.setIfInBounds_toArray, List.set_cons_zero, List.set_cons_succ]))
              (refine plan_take (v := ?_) (by rfl) (fun wS hS => ?_) ?_; rotate_left; (focus ((try dsimp only at hS); go_simp; (try with_reducible rfl); done)); (try simp only [Act.put, List.setIfInBounds_toArray, List.set_cons_zero, List.set_cons_succ]))
              refine plan_nil ?_
              go_wp2_with fail
              refine (first16_any _).mono ?_
              rintro e wf ⟨rfl, yf⟩
              go_wp2_with fail
              go_ret
              exact ⟨rfl, HW.out.2.2.trans ((HX4.out.trans X4.out).trans ((yo.drew).trans yf))⟩
            | false =>
              have HT : Hid (plStep n l i = true) := Lib.hid (by
                unfold plStep
                rw [HZ.out, Int.toNat_natCast]
                have := HMB.out
                simp at this ⊢
                first | exact this | exact ⟨by omega, this⟩)
              obtain ⟨w7, hw7⟩ : ∃ W, W = wr.setCell (at_ mv q) (.bool true) := ⟨_, rfl⟩
              have H7 : Hid (Own w7 4 1 mv n ((List.range n).map (metF l (i + 1))) ∧ Mod (fun q => mv.ownBlock = some q) w5 w7) := Lib.hid (by
                obtain ⟨ho, md, hst⟩ := H.out
                have os := ho.set (by omega) q (.bool true)
                have M8 : Mod (fun q => mv.ownBlock = some q) wr (wr.setCell (at_ mv q) (.bool true)) := Mod.setCell (F := fun q => mv.ownBlock = some q) (Mod.refl _ _) (.inl (ho.at_block (by omega) q)) _
                have e9 : ((List.range n).map (metF l i)).set q (.bool true) = (List.range n).map (metF l (i + 1)) := range_map_set (f := metF l i) (g := metF l (i + 1)) (i := q) (.bool true) hqn (fun j hj hne => by
                  unfold metF
                  rw [posK_succ, HZ.out]
                  by_cases hp : posK l i j = -1
                  · rw [if_pos hp, if_neg (by simp; omega), hp]
                  · rw [if_neg hp]) (by
                  unfold metF
                  rw [posK_succ, HZ.out]
                  have := HMB.out
                  simp at this
                  rw [if_pos this, if_pos (by simp)]
                  (simp; try omega))
                rw [e9, ← hw7] at os
                rw [← hw7] at M8
                exact ⟨os, md.trans M8⟩)
              have X7 : Hid (Ext w4 w7) := Lib.hid (KX.out _ H7.out.2)
              have HST := Lib.hid (lt_step H.out.2.2 HT.out)
              have HCZ : Hid (∀ w', Ext w7 w' → w'.cell? (at_ ov i) = some (.int .i64 (q : Int))) := Lib.hid fun w' x => by
                have := (HOV.out.ext (HW.out.2.2.trans (HX4.out.trans (X7.out.trans x)))).cell hil
                rw [show l[i] = (q : Int) by have := HZ.out; simpa [hil] using this] at this
                exact this
              have HW7 := Lib.hid hw7
              clear hw7
              go_upto_region 17 with fail
              rw [← HW7.out]
              clear c0 f0 i0 j0 cF
              go_wp2_with fail
              go_loopw [10, 12] (fun s10 s12 wq => ∃ k : Nat, k ≤ i ∧ s10 = .bool (G && allN (fun k => !hasB L.ev.length (hbB L) (l.getD i (-1)) (l.getD k (-1))) k) ∧ s12 = .int .i64 (k : Int) ∧ Ext w7 wq) (fun _ s _ => i - (intOf s).toNat)
              case atStart => exact ⟨0, Nat.zero_le _, by simp [allN], rfl, Mod.refl _ _⟩
              case round =>
                obtain ⟨k, hk, rfl, rfl, xq⟩ := hrel
                have XQ7 := Lib.hid xq
                have HRQ := HR
                obtain ⟨GK, hGK⟩ : ∃ b, b = (G && allN (fun k => !hasB L.ev.length (hbB L) (l.getD i (-1)) (l.getD k (-1))) k) := ⟨_, rfl⟩
                rw [← hGK]
                by_cases hki : k < i
                · have hki' : (k : Int) < (i : Int) := by omega
                  have j0 := IO.out i hil
                  have j1 := IO.out k (by omega)
                  simp only [Nat.mul_one] at j0 j1
                  obtain ⟨y, hy⟩ : ∃ y, y = l.getD k (-1) := ⟨_, rfl⟩
                  obtain ⟨z, hzz⟩ : ∃ z, z = (q : Int) := ⟨_, rfl⟩
                  obtain ⟨Q, hQ⟩ : ∃ Q, Q = hasB n (hbB L) z y := ⟨_, rfl⟩
                  have HQ := Lib.hid hQ.symm
                  have NK : Hid ((G && allN (fun k => !hasB L.ev.length (hbB L) (l.getD i (-1)) (l.getD k (-1))) (k + 1)) = (GK && !Q)) := Lib.hid (by rw [allN_succ, ← Bool.and_assoc, ← hGK, hQ, ← HNN.out, HZ.out, hy, hzz])
                  have KF : Hid (∀ w', Ext wr w' → w'.cell? (at_ ov i) = some (.int .i64 z) ∧ w'.cell? (at_ ov k) = some (.int .i64 y)) := Lib.hid fun w' x => ⟨by rw [hzz]; exact HCZ.out _ (xq.trans x), by
                    have := (HOV.out.ext (HW.out.2.2.trans (HX4.out.trans (X7.out.trans (xq.trans x))))).cell (show k < l.length by omega)
                    rw [hy, show l.getD k (-1) = l[k] by simp [show k < l.length by omega]]
                    exact this⟩
                  have XQ : Hid (Ext w4 wr) := Lib.hid (X7.out.trans xq)
                  have HR : Hid (∀ w', Ext w4 w' → RelIs w' (.pointer (some ⟨pr, 0, none⟩)) n (hbB L)) := Lib.hid fun w' x => HR4.out.ext x
                  clear hGK hy hzz hQ xq
                  go_upto_region 20 with fail
                  cases GK with
                  | false =>
                    refine wp_region_plan [(0, true), (1, true), (2, true), (3, true), (4, true), (5, true), (6, true), (7, true), (8, true), (9, true), (10, true), (11, false), (12, true), (13, true), (14, true)] (fun w' => w'.cell? (at_ ov i) = some (.int .i64 z) ∧ w'.cell? (at_ ov k) = some (.int .i64 y)) (by kernel_rfl) (by kernel_rfl) (by kernel_rfl) (fun _ d _ _ _ h => by cases d <;> exact h) (KF.out _ (Mod.drew (Mod.refl _ _))) ?_
                    simp only [planL, getO]
                    iterate 2 (refine plan_take (v := ?_) (by rfl) (fun wS hS => ?_) ?_; rotate_left; (focus ((try dsimp only at hS); go_simp; (try with_reducible rfl); done)); (try simp only [Act.put, List.setIfInBounds_toArray, List.set_cons_zero, List.set_cons_succ]))
                    iterate 9 (refine plan_skip (by rfl) ?_; (try simp only [Act.put, List.setIfInBounds_toArray, List.set_cons_zero, List.set_cons_succ]))
                    (refine plan_skip (by rfl) ?_; (try simp only [Act.put, List.setIfInBounds_toArray, List.set_cons_zero, List.set_cons_succ]))
                    (refine plan_skip (by rfl) ?_; (try simp only [Act.put, List.setIfInBounds_toArray, List.set_cons_zero, List.set_cons_succ]))
                    iterate 2 (refine plan_take (v := ?_) (by rfl) (fun wS hS => ?_) ?_; rotate_left; (focus ((try dsimp only at hS); go_simp; (try with_reducible rfl); done)); (try simp only [Act.put, List.setIfInBounds_toArray, List.set_cons_zero, List.set_cons_succ]))
                    refine plan_nil ?_
                    go_wp2_with fail
                    go_roundw
                    case rel => exact ⟨k + 1, by omega, by rw [NK.out]; rfl, by go_num, XQ7.out.drew⟩
                    case measure => simp [intOf]; omega
                  | true =>
                    refine wp_region_plan [(0, true), (1, true), (2, true), (3, true), (4, true), (5, true), (6, true), (7, true), (8, true), (9, true), (10, true), (11, false), (12, true), (13, true), (14, true)] (fun w' => w'.cell? (at_ ov i) = some (.int .i64 z) ∧ w'.cell? (at_ ov k) = some (.int .i64 y)) (by kernel_rfl) (by kernel_rfl) (by kernel_rfl) (fun _ d _ _ _ h => by cases d <;> exact h) (KF.out _ (Mod.drew (Mod.refl _ _))) ?_
                    simp only [planL, getO]
                    iterate 11 (refine plan_take (v := ?_) (by rfl) (fun wS hS => ?_) ?_; rotate_left; (focus ((try dsimp only at hS); go_simp; (try with_reducible rfl); done)); (try simp only [Act.put, List.setIfInBounds_toArray, List.set_cons_zero, List.set_cons_succ]))
                    refine plan_call (fun K hK => ?_)
                    go_simp
                    go_at_call 27; refine (has_any _ _ _ _ (HR.out _ (XQ.out.trans (Mod.drew (Mod.refl _ _)))) z y).mono ?_; rintro en w8 ⟨rfl, y8⟩; have E8 : Ext wr w8 := Mod.trans (Mod.drew (Mod.refl _ _)) y8; rw [HQ.out]
                    refine hK.out _ _ (KF.out _ E8) ?_
                    clear hK K
                    (try simp only [Act.put, List.setIfInBounds_toArray, List.set_cons_zero, List.set_cons_succ])
                    iterate 3 (refine plan_take (v := ?_) (by rfl) (fun wS hS => ?_) ?_; rotate_left; (focus ((try dsimp only at hS); go_simp; (try with_reducible rfl); done)); (try simp only [Act.put, List.setIfInBounds_toArray, List.set_cons_zero, List.set_cons_succ]))
                    refine plan_nil ?_
                    go_wp2_with fail
                    go_roundw
                    case rel => exact ⟨k + 1, by omega, by rw [NK.out]; rfl, by go_num, XQ7.out.trans E8⟩
                    case measure => simp [intOf]; omega
                · have hki' : ¬ (k : Int) < (i : Int) := by omega
                  have HGN : Hid ((LN && allN (noBack L l) (i + 1)) = GK) := Lib.hid (by
                    rw [allN_succ, ← Bool.and_assoc, HG.out, hGK, show k = i by omega]; rfl)
                  clear hGK xq
                  go_wp2_with fail
                  go_roundw
                  case rel => exact ⟨i + 1, by omega, by rw [HGN.out], by go_num, HST.out, H7.out.1.ext XQ7.out, H7.out.2.ext XQ7.out⟩
                  case measure => simp [intOf]; omega
          all_goals
            have HOF : Hid (ordB L l = false) := Lib.hid (HNO.out (by
              unfold plStep
              rw [HZ.out]
              simp; omega))
            have HOI : Hid (ordI L l = 0) := Lib.hid (by unfold ordI; rw [HOF.out]; rfl)
            obtain ⟨c3, c4⟩ := (KE.out _ (HX4.out.trans X4.out)).2.cells
            clear ho md hst
            go_wp2_with fail
            refine (ordered_any _ ve vp V L (KE.out _ (HX4.out.trans X4.out)).1 HLE.out ov l (HOV.out.ext (HW.out.2.2.trans (HX4.out.trans X4.out)))).mono ?_
            rintro e wo ⟨rfl, yo⟩
            rw [HOI.out]
            clear c3 c4
            go_upto_region 23 with fail
            refine wp_region_plan [(0, true), (1, true), (2, true), (3, true), (4, true), (5, true), (6, true), (7, true), (8, true), (9, true), (10, true), (11, true), (12, true), (13, true), (14, true), (15, true), (16, true), (17, true), (18, true), (19, true), (20, true), (21, true), (22, true), (23, false), (24, true)] (fun w' => True) (by kernel_rfl) (by kernel_rfl) (by kernel_rfl) (fun _ d _ _ _ h => by cases d <;> exact h) (trivial) ?_
            simp only [planL, getO]
            iterate 3 (refine plan_take (v := ?_) (by rfl) (fun wS hS => ?_) ?_; rotate_left; (focus ((try dsimp only at hS); go_simp; (try with_reducible rfl); done)); (try simp only [Act.put, List.setIfInBounds_toArray, List.set_cons_zero, List.set_cons_succ]))
            iterate 2 (refine plan_skip (by rfl) ?_; (try simp only [Act.put, List.setIfInBounds_toArray, List.set_cons_zero, List.set_cons_succ]))
            iterate 2 (refine plan_take (v := ?_) (by rfl) (fun wS hS => ?_) ?_; rotate_left; (focus ((try dsimp only at hS); go_simp; (try with_reducible rfl); done)); (try simp only [Act.put, List.setIfInBounds_toArray, List.set_cons_zero, List.set_cons_succ]))
            iterate 4 (refine plan_skip (by rfl) ?_; (try simp only [Act.put, List.setIfInBounds_toArray, List.set_cons_zero, List.set_cons_succ]))
            iterate 2 (refine plan_take (v := ?_) (by rfl) (fun wS hS => ?_) ?_; rotate_left; (focus ((try dsimp only at hS); go_simp; (try with_reducible rfl); done)); (try simp only [Act.put, List.setIfInBounds_toArray, List.set_cons_zero, List.set_cons_succ]))
            iterate 10 (refine plan_skip (by rfl) ?_; (try simp only [Act.put, List.setIfInBounds_toArray, List.set_cons_zero, List.set_cons_succ]))
            (refine plan_skip (by rfl) ?_; (try simp only [Act.put, List.setIfInBounds_toArray, List.set_cons_zero, List.set_cons_succ]))
            (refine plan_take (v := ?_) (by rfl) (fun wS hS => ?_) ?_; rotate_left; (focus ((try dsimp only at hS); go_simp; (try with_reducible rfl); done)); (try simp only [Act.put, List.setIfInBounds_toArray, List.set_cons_zero, List.set_cons_succ]))
            refine plan_nil ?_
            go_wp2_with fail
            refine (first16_any _).mono ?_
            rintro e wf ⟨rfl, yf⟩
            go_wp2_with fail
            go_ret
            exact ⟨rfl, HW.out.2.2.trans ((HX4.out.trans X4.out).trans ((yo.drew).trans yf))⟩
        · have hil' : ¬ (i : Int) < (l.length : Int) := by omega
          have hord : ordB L l = G := by
            rw [good_iff HM.out (fun j hj => by rw [← HNN.out]; exact hst j (by omega)), hG, HLN.out, show i = l.length by omega]
          have HORD := Lib.hid hord
          have HOI : Hid (ordI L l = (if G = true then -1 else 0)) := Lib.hid (by unfold ordI; rw [hord])
          clear ho md hst hG hord
          obtain ⟨c3, c4⟩ := (KE.out _ (HX4.out.trans X4.out)).2.cells
          go_wp2_with fail
          refine (ordered_any _ ve vp V L (KE.out _ (HX4.out.trans X4.out)).1 HLE.out ov l (HOV.out.ext (HW.out.2.2.trans (HX4.out.trans X4.out)))).mono ?_
          rintro e wo ⟨rfl, yo⟩
          rw [HOI.out]
          have XO := Lib.hid (X4.out.trans yo)
          clear c3 c4 yo
          cases G with
          | false =>
            simp only [Bool.false_eq_true, if_false]
            go_upto_region 23 with fail
            refine wp_region_plan [(0, true), (1, true), (2, true), (3, true), (4, true), (5, true), (6, true), (7, true), (8, true), (9, true), (10, true), (11, true), (12, true), (13, true), (14, true), (15, true), (16, true), (17, true), (18, true), (19, true), (20, true), (21, true), (22, true), (23, false), (24, true)] (fun w' => True) (by kernel_rfl) (by kernel_rfl) (by kernel_rfl) (fun _ d _ _ _ h => by cases d <;> exact h) (trivial) ?_
            simp only [planL, getO]
            iterate 3 (refine plan_take (v := ?_) (by rfl) (fun wS hS => ?_) ?_; rotate_left; (focus ((try dsimp only at hS); go_simp; (try with_reducible rfl); done)); (try simp only [Act.put, List.setIfInBounds_toArray, List.set_cons_zero, List.set_cons_succ]))
            iterate 2 (refine plan_skip (by rfl) ?_; (try simp only [Act.put, List.setIfInBounds_toArray, List.set_cons_zero, List.set_cons_succ]))
            iterate 2 (refine plan_take (v := ?_) (by rfl) (fun wS hS => ?_) ?_; rotate_left; (focus ((try dsimp only at hS); go_simp; (try with_reducible rfl); done)); (try simp only [Act.put, List.setIfInBounds_toArray, List.set_cons_zero, List.set_cons_succ]))
            iterate 4 (refine plan_skip (by rfl) ?_; (try simp only [Act.put, List.setIfInBounds_toArray, List.set_cons_zero, List.set_cons_succ]))
            iterate 2 (refine plan_take (v := ?_) (by rfl) (fun wS hS => ?_) ?_; rotate_left; (focus ((try dsimp only at hS); go_simp; (try with_reducible rfl); done)); (try simp only [Act.put, List.setIfInBounds_toArray, List.set_cons_zero, List.set_cons_succ]))
            iterate 10 (refine plan_skip (by rfl) ?_; (try simp only [Act.put, List.setIfInBounds_toArray, List.set_cons_zero, List.set_cons_succ]))
            (refine plan_skip (by rfl) ?_; (try simp only [Act.put, List.setIfInBounds_toArray, List.set_cons_zero, List.set_cons_succ]))
            (refine plan_take (v := ?_) (by rfl) (fun wS hS => ?_) ?_; rotate_left; (focus ((try dsimp only at hS); go_simp; (try with_reducible rfl); done)); (try simp only [Act.put, List.setIfInBounds_toArray, List.set_cons_zero, List.set_cons_succ]))
            refine plan_nil ?_
            go_wp2_with fail
            refine (first16_any _).mono ?_
            rintro e wf ⟨rfl, yf⟩
            go_wp2_with fail
            go_ret
            exact ⟨rfl, HW.out.2.2.trans (HX4.out.trans ((XO.out.drew).trans yf))⟩
          | true =>
            simp only [if_true]
            have wn : IntKind.i64.wrap ((n : Int) - 1) = (n : Int) - 1 := IntWalk.i64_in _ (by omega)
            have hln : l.length = n := by rw [HNN.out]; exact ((ord_iff HM.out).1 HORD.out).1.len
            go_upto_region 23 with fail
            rcases (by omega : at0 < 0 ∨ (¬ at0 < 0 ∧ (n : Int) - 1 ≤ at0) ∨ (0 ≤ at0 ∧ at0 < (n : Int) - 1)) with q1 | ⟨q1, q2⟩ | ⟨q1, q2⟩
            case inl =>
              refine wp_region_plan [(0, true), (1, true), (2, true), (3, true), (4, true), (5, true), (6, true), (7, true), (8, true), (9, true), (10, true), (11, true), (12, true), (13, true), (14, true), (15, true), (16, true), (17, true), (18, true), (19, true), (20, true), (21, true), (22, true), (23, false), (24, true)] (fun w' => True) (by kernel_rfl) (by kernel_rfl) (by kernel_rfl) (fun _ d _ _ _ h => by cases d <;> exact h) (trivial) ?_
              simp only [planL, getO]
              iterate 7 (refine plan_take (v := ?_) (by rfl) (fun wS hS => ?_) ?_; rotate_left; (focus ((try dsimp only at hS); go_simp; (try with_reducible rfl); done)); (try simp only [Act.put, List.setIfInBounds_toArray, List.set_cons_zero, List.set_cons_succ]))
              iterate 4 (refine plan_skip (by rfl) ?_; (try simp only [Act.put, List.setIfInBounds_toArray, List.set_cons_zero, List.set_cons_succ]))
              iterate 2 (refine plan_take (v := ?_) (by rfl) (fun wS hS => ?_) ?_; rotate_left; (focus ((try dsimp only at hS); go_simp; (try with_reducible rfl); done)); (try simp only [Act.put, List.setIfInBounds_toArray, List.set_cons_zero, List.set_cons_succ]))
              iterate 10 (refine plan_skip (by rfl) ?_; (try simp only [Act.put, List.setIfInBounds_toArray, List.set_cons_zero, List.set_cons_succ]))
              (refine plan_skip (by rfl) ?_; (try simp only [Act.put, List.setIfInBounds_toArray, List.set_cons_zero, List.set_cons_succ]))
              (refine plan_take (v := ?_) (by rfl) (fun wS hS => ?_) ?_; rotate_left; (focus ((try dsimp only at hS); go_simp; (try with_reducible rfl); done)); (try simp only [Act.put, List.setIfInBounds_toArray, List.set_cons_zero, List.set_cons_succ]))
              refine plan_nil ?_
              go_wp2_with fail
              refine (first16_any _).mono ?_
              rintro e wf ⟨rfl, yf⟩
              go_wp2_with fail
              go_ret
              exact ⟨rfl, HW.out.2.2.trans (HX4.out.trans ((XO.out.drew).trans yf))⟩
            case inr.inl =>
              have q5 : (n : Int) ≤ at0 + 1 := by omega
              have q6 : decide ((n : Int) - 1 ≤ at0) = true := by simpa using q2
              refine wp_region_plan [(0, true), (1, true), (2, true), (3, true), (4, true), (5, true), (6, true), (7, true), (8, true), (9, true), (10, true), (11, true), (12, true), (13, true), (14, true), (15, true), (16, true), (17, true), (18, true), (19, true), (20, true), (21, true), (22, true), (23, false), (24, true)] (fun w' => True) (by kernel_rfl) (by kernel_rfl) (by kernel_rfl) (fun _ d _ _ _ h => by cases d <;> exact h) (trivial) ?_
              simp only [planL, getO]
              iterate 13 (refine plan_take (v := ?_) (by rfl) (fun wS hS => ?_) ?_; rotate_left; (focus ((try dsimp only at hS); go_simp; (try with_reducible rfl); done)); (try simp only [Act.put, List.setIfInBounds_toArray, List.set_cons_zero, List.set_cons_succ]))
              iterate 10 (refine plan_skip (by rfl) ?_; (try simp only [Act.put, List.setIfInBounds_toArray, List.set_cons_zero, List.set_cons_succ]))
              (refine plan_skip (by rfl) ?_; (try simp only [Act.put, List.setIfInBounds_toArray, List.set_cons_zero, List.set_cons_succ]))
              (refine plan_take (v := ?_) (by rfl) (fun wS hS => ?_) ?_; rotate_left; (focus ((try dsimp only at hS); go_simp; (try with_reducible rfl); done)); (try simp only [Act.put, List.setIfInBounds_toArray, List.set_cons_zero, List.set_cons_succ]))
              refine plan_nil ?_
              go_wp2_with fail
              refine (first16_any _).mono ?_
              rintro e wf ⟨rfl, yf⟩
              go_wp2_with fail
              go_ret
              exact ⟨rfl, HW.out.2.2.trans (HX4.out.trans ((XO.out.drew).trans yf))⟩
            obtain ⟨t, rfl⟩ := Int.eq_ofNat_of_zero_le q1
            have ht1 : t + 1 < n := by omega
            have q3 : ¬ (t : Int) < 0 := by omega
            have q4 : ¬ (n : Int) - 1 ≤ (t : Int) := by omega
            have q5 : ¬ (n : Int) ≤ (t : Int) + 1 := by omega
            have wt1 : IntKind.i64.wrap ((t : Int) + 1) = (t : Int) + 1 := IntWalk.i64_in _ (by omega)
            have q6 : decide ((n : Int) - 1 ≤ (t : Int)) = false := by simpa using q4
            have q7 : ¬ n ≤ t + 1 := by omega
            have j0 := IO.out t (by omega)
            have j1 := IO.out (t + 1) (by omega)
            simp only [Nat.mul_one] at j0 j1
            rw [show ((t + 1 : Nat) : Int) = (t : Int) + 1 by omega] at j1
            obtain ⟨z, hz⟩ : ∃ z, z = l.getD t (-1) := ⟨_, rfl⟩
            obtain ⟨y, hy⟩ : ∃ y, y = l.getD (t + 1) (-1) := ⟨_, rfl⟩
            obtain ⟨Q, hQ⟩ : ∃ Q, Q = hasB n (hbB L) z y := ⟨_, rfl⟩
            have HQ := Lib.hid hQ.symm
            have KF : Hid (∀ w', Ext wo w' → w'.cell? (at_ ov t) = some (.int .i64 z) ∧ w'.cell? (at_ ov (t + 1)) = some (.int .i64 y)) := Lib.hid fun w' x => by
              have hv := HOV.out.ext (HW.out.2.2.trans (HX4.out.trans (XO.out.trans x)))
              have e1 := hv.cell (show t < l.length by omega)
              have e2 := hv.cell (show t + 1 < l.length by omega)
              rw [hz, hy, show l.getD t (-1) = l[t] by simp [show t < l.length by omega], show l.getD (t + 1) (-1) = l[t + 1] by simp [show t + 1 < l.length by omega]]
              exact ⟨e1, e2⟩
            have HR : Hid (∀ w', Ext w4 w' → RelIs w' (.pointer (some ⟨pr, 0, none⟩)) n (hbB L)) := Lib.hid fun w' x => HR4.out.ext x
            have HZY := Lib.hid (And.intro hz hy)
            clear hz hy hQ
            refine wp_region_plan [(0, true), (1, true), (2, true), (3, true), (4, true), (5, true), (6, true), (7, true), (8, true), (9, true), (10, true), (11, true), (12, true), (13, true), (14, true), (15, true), (16, true), (17, true), (18, true), (19, true), (20, true), (21, true), (22, true), (23, false), (24, true)] (fun w' => w'.cell? (at_ ov t) = some (.int .i64 z) ∧ w'.cell? (at_ ov (t + 1)) = some (.int .i64 y)) (by kernel_rfl) (by kernel_rfl) (by kernel_rfl) (fun _ d _ _ _ h => by cases d <;> exact h) (KF.out _ (Mod.drew (Mod.refl _ _))) ?_
            simp only [planL, getO]
            iterate 23 (refine plan_take (v := ?_) (by rfl) (fun wS hS => ?_) ?_; rotate_left; (focus ((try dsimp only at hS); go_simp; (try with_reducible rfl); done)); (try simp only [Act.put, List.setIfInBounds_toArray, List.set_cons_zero, List.set_cons_succ]))
            refine plan_call (fun K hK => ?_)
            go_simp
            go_at_call 27; refine (has_any _ _ _ _ (HR.out _ (XO.out.trans (Mod.drew (Mod.refl _ _)))) z y).mono ?_; rintro en w9 ⟨rfl, y9⟩; have E9 : Ext wo w9 := Mod.trans (Mod.drew (Mod.refl _ _)) y9; rw [HQ.out]
            refine hK.out _ _ (KF.out _ E9) ?_
            clear hK K
            (try simp only [Act.put, List.setIfInBounds_toArray, List.set_cons_zero, List.set_cons_succ])
            (refine plan_take (v := ?_) (by rfl) (fun wS hS => ?_) ?_; rotate_left; (focus ((try dsimp only at hS); go_simp; (try with_reducible rfl); done)); (try simp only [Act.put, List.setIfInBounds_toArray, List.set_cons_zero, List.set_cons_succ]))
            refine plan_nil ?_
            cases Q with
            | true =>
              go_wp2_with fail
              refine (first16_any _).mono ?_
              rintro e wf ⟨rfl, yf⟩
              go_wp2_with fail
              go_ret
              exact ⟨rfl, HW.out.2.2.trans (HX4.out.trans (XO.out.trans (E9.trans yf)))⟩
            | false =>
              have HSW : Hid (ordI L (swapL l t) = -1) := Lib.hid (by unfold ordI; rw [if_pos (swap_ord HM.out HORD.out (by rw [← HNN.out]; exact ht1) (by rw [← HNN.out, ← HZY.out.1, ← HZY.out.2]; exact HQ.out))])
              clear j0 j1
              go_wp2_with fail
              refine (copy_ints _ ov l (HOV.out.ext (HW.out.2.2.trans (HX4.out.trans (XO.out.trans E9)))) (by omega)).mono ?_
              rintro e wt ⟨tv, rfl, ot, yt, ft⟩
              rw [List.length_map] at ot
              have XT := Lib.hid (XO.out.trans (E9.trans yt))
              have k0 := ot.sl.run_idx (P := Try.prog) II.und II.size .i64 t (by omega)
              have k1 := ot.sl.run_idx (P := Try.prog) II.und II.size .i64 (t + 1) (by omega)
              simp only [Nat.mul_one] at k0 k1
              rw [show ((t + 1 : Nat) : Int) = (t : Int) + 1 by omega] at k1
              have OT := Lib.hid (And.intro ot ft)
              obtain ⟨gt, cap, htv, a0⟩ := ot.at_eq (by omega) t
              have a1 : at_ tv (t + 1) = ⟨gt, t + 1, none⟩ := by rw [htv]; exact at_own _ _ _ _
              rw [a0] at k0
              rw [a1] at k1
              have hcell : ∀ j, (hj : j < l.length) → wt.cell? (at_ tv j) = some (.int .i64 (l.getD j (-1))) := fun j hj => ot.sl.cell j _ (by simp [hj, iv])
              have KT : Hid (wt.drew.cell? ⟨gt, t, none⟩ = some (.int .i64 z) ∧ wt.drew.cell? ⟨gt, t + 1, none⟩ = some (.int .i64 y)) := Lib.hid ⟨by rw [HZY.out.1, ← a0]; exact hcell t (by omega), by rw [HZY.out.2, ← a1]; exact hcell (t + 1) (by omega)⟩
              have f0 : wt.drew.frozen? ⟨gt, t, none⟩ = false := by rw [← a0]; exact ot.frozen t (by omega)
              have f1 : wt.drew.frozen? ⟨gt, t + 1, none⟩ = false := by rw [← a1]; exact ot.frozen (t + 1) (by omega)
              have HA01 := Lib.hid (And.intro a0 a1)
              clear ot ft hcell yt htv a0 a1
              go_upto_region 26 with fail
              have e1 : wt.cell? ⟨gt, t, none⟩ = some (.int .i64 z) := KT.out.1
              have e2 : wt.cell? ⟨gt, t + 1, none⟩ = some (.int .i64 y) := KT.out.2
              have f2 : wt.frozen? ⟨gt, t, none⟩ = false := f0
              have f3 : wt.frozen? ⟨gt, t + 1, none⟩ = false := f1
              refine wp_region_planL [15, 17] [(0, 0), (1, 0), (2, 3), (3, 3), (4, 3), (5, 0), (6, 0), (7, 0), (8, 0), (9, 0), (10, 0), (11, 0), (12, 0), (13, 0), (14, 3), (15, 2), (16, 3), (17, 2)] (fun w' => w'.cell? ⟨gt, t, none⟩ = some (.int .i64 z) ∧ w'.cell? ⟨gt, t + 1, none⟩ = some (.int .i64 y)) (by kernel_rfl) (by kernel_rfl) (by kernel_rfl) (fun _ d _ _ _ h => by cases d <;> exact h) (KT.out) ?_
              simp only [planLL, getO]
              (refine planL_take (v := ?_) (by rfl) (fun wS hS => ?_) ?_; rotate_left; (focus ((try dsimp only at hS); go_simp; (try with_reducible rfl); done)); (try simp only [Act.put, List.setIfInBounds_toArray, List.set_cons_zero, List.set_cons_succ]))
              (refine planL_take (v := ?_) (by rfl) (fun wS hS => ?_) ?_; rotate_left; (focus ((try dsimp only at hS); go_simp; (try with_reducible rfl); done)); (try simp only [Act.put, List.setIfInBounds_toArray, List.set_cons_zero, List.set_cons_succ]))
              (refine planL_pure (v := ?_) (by rfl) (fun wS => ?_) ?_; rotate_left; (focus (go_simp; (try with_reducible rfl); done)); (try simp only [Act.put, List.setIfInBounds_toArray, List.set_cons_zero, List.set_cons_succ]))
              (refine planL_pure (v := ?_) (by rfl) (fun wS => ?_) ?_; rotate_left; (focus (go_simp; (try with_reducible rfl); done)); (try simp only [Act.put, List.setIfInBounds_toArray, List.set_cons_zero, List.set_cons_succ]))
              (refine planL_pure (v := ?_) (by rfl) (fun wS => ?_) ?_; rotate_left; (focus (go_simp; (try with_reducible rfl); done)); (try simp only [Act.put, List.setIfInBounds_toArray, List.set_cons_zero, List.set_cons_succ]))
              (refine planL_take (v := ?_) (by rfl) (fun wS hS => ?_) ?_; rotate_left; (focus ((try dsimp only at hS); go_simp; (try with_reducible rfl); done)); (try simp only [Act.put, List.setIfInBounds_toArray, List.set_cons_zero, List.set_cons_succ]))
              (refine planL_take (v := ?_) (by rfl) (fun wS hS => ?_) ?_; rotate_left; (focus ((try dsimp only at hS); go_simp; (try with_reducible rfl); done)); (try simp only [Act.put, List.setIfInBounds_toArray, List.set_cons_zero, List.set_cons_succ]))
              (refine planL_take (v := ?_) (by rfl) (fun wS hS => ?_) ?_; rotate_left; (focus ((try dsimp only at hS); go_simp; (try with_reducible rfl); done)); (try simp only [Act.put, List.setIfInBounds_toArray, List.set_cons_zero, List.set_cons_succ]))
              (refine planL_take (v := ?_) (by rfl) (fun wS hS => ?_) ?_; rotate_left; (focus ((try dsimp only at hS); go_simp; (try with_reducible rfl); done)); (try simp only [Act.put, List.setIfInBounds_toArray, List.set_cons_zero, List.set_cons_succ]))
              (refine planL_take (v := ?_) (by rfl) (fun wS hS => ?_) ?_; rotate_left; (focus ((try dsimp only at hS); go_simp; (try with_reducible rfl); done)); (try simp only [Act.put, List.setIfInBounds_toArray, List.set_cons_zero, List.set_cons_succ]))
              (refine planL_take (v := ?_) (by rfl) (fun wS hS => ?_) ?_; rotate_left; (focus ((try dsimp only at hS); go_simp; (try with_reducible rfl); done)); (try simp only [Act.put, List.setIfInBounds_toArray, List.set_cons_zero, List.set_cons_succ]))
              (refine planL_take (v := ?_) (by rfl) (fun wS hS => ?_) ?_; rotate_left; (focus ((try dsimp only at hS); go_simp; (try with_reducible rfl); done)); (try simp only [Act.put, List.setIfInBounds_toArray, List.set_cons_zero, List.set_cons_succ]))
              (refine planL_take (v := ?_) (by rfl) (fun wS hS => ?_) ?_; rotate_left; (focus ((try dsimp only at hS); go_simp; (try with_reducible rfl); done)); (try simp only [Act.put, List.setIfInBounds_toArray, List.set_cons_zero, List.set_cons_succ]))
              (refine planL_take (v := ?_) (by rfl) (fun wS hS => ?_) ?_; rotate_left; (focus ((try dsimp only at hS); go_simp; (try with_reducible rfl); done)); (try simp only [Act.put, List.setIfInBounds_toArray, List.set_cons_zero, List.set_cons_succ]))
              (refine planL_pure (v := ?_) (by rfl) (fun wS => ?_) ?_; rotate_left; (focus (go_simp; (try with_reducible rfl); done)); (try simp only [Act.put, List.setIfInBounds_toArray, List.set_cons_zero, List.set_cons_succ]))
              refine planL_late (fun K hK => ?_)
              go_simp
              refine hK.out _ _ ?_
              clear hK K
              (try simp only [Act.put, List.setIfInBounds_toArray, List.set_cons_zero, List.set_cons_succ])
              (refine planL_pure (v := ?_) (by rfl) (fun wS => ?_) ?_; rotate_left; (focus (go_simp; (try with_reducible rfl); done)); (try simp only [Act.put, List.setIfInBounds_toArray, List.set_cons_zero, List.set_cons_succ]))
              refine planL_late (fun K hK => ?_)
              go_simp
              refine hK.out _ _ ?_
              clear hK K
              (try simp only [Act.put, List.setIfInBounds_toArray, List.set_cons_zero, List.set_cons_succ])
              refine planL_nil ?_
              obtain ⟨wz, hwz⟩ : ∃ W, W = ((wt.setCell ⟨gt, t, none⟩ (.int .i64 y)).setCell ⟨gt, t + 1, none⟩ (.int .i64 z)).drew := ⟨_, rfl⟩
              rw [← hwz]
              rw [← HA01.out.1, ← HA01.out.2] at hwz
              have HTZ : Hid (IntsAt wz tv (swapL l t) ∧ Ext w4 wz) := Lib.hid (by
                obtain ⟨ot, ft⟩ := OT.out
                have os := ((ot.set (by omega) t (.int .i64 y)).set (by omega) (t + 1) (.int .i64 z)).ext ((Mod.refl _ _).drew)
                rw [← hwz] at os
                have e9 : (((l.map iv).set t (.int .i64 y)).set (t + 1) (.int .i64 z)) = (swapL l t).map iv := by
                  unfold swapL
                  rw [List.map_set, List.map_set, ← HZY.out.1, ← HZY.out.2]; rfl
                rw [e9] at os
                have hsl : (swapL l t).length = l.length := by simp [swapL]
                refine ⟨⟨by rw [hsl]; exact os.sl, fun x hx => ?_⟩, ?_⟩
                · have hx' : x ∈ l := by
                    unfold swapL at hx
                    have gz : l.getD t (-1) ∈ l := by rw [show l.getD t (-1) = l[t] by simp [show t < l.length by omega]]; exact List.getElem_mem _
                    have gy : l.getD (t + 1) (-1) ∈ l := by rw [show l.getD (t + 1) (-1) = l[t + 1] by simp [show t + 1 < l.length by omega]]; exact List.getElem_mem _
                    rcases List.mem_or_eq_of_mem_set hx with h1 | h1
                    · rcases List.mem_or_eq_of_mem_set h1 with h2 | h2
                      · exact h2
                      · rw [h2]; exact gy
                    · rw [h1]; exact gz
                  exact HOV.out.ok x hx'
                · have M1 : Mod (fun q => tv.ownBlock = some q) wt wz := by
                    rw [hwz]
                    refine Mod.drew ?_
                    exact Mod.setCell (F := fun q => tv.ownBlock = some q) (Mod.setCell (F := fun q => tv.ownBlock = some q) (Mod.refl _ _) (.inl (ot.at_block (by omega) t)) _) (.inl (ot.at_block (by omega) (t + 1))) _
                  exact XT.out.trans' M1 (fun q hq => .inr (by have h1 := ft q hq; have h2 := XO.out.size; have h3 := E9.size; omega)))
              clear hwz e1 e2 f0 f1 f2 f3 k0 k1
              go_wp2_with fail
              refine (first16_any _).mono ?_
              rintro e wf ⟨rfl, yf⟩
              have XF := Lib.hid (HTZ.out.2.trans yf)
              obtain ⟨c0, c1⟩ := (KE.out _ (HX4.out.trans XF.out)).2.cells
              go_wp2_with fail
              refine (ordered_any _ ve vp V L (KE.out _ (HX4.out.trans XF.out)).1 HLE.out tv (swapL l t) (HTZ.out.1.ext yf)).mono ?_
              rintro e wl ⟨rfl, yl⟩
              rw [HSW.out]
              go_wp2_with fail
              go_ret
              exact ⟨rfl, HW.out.2.2.trans (HX4.out.trans (XF.out.trans yl))⟩
end Go.Proofs.Ythmkcgiiakinmaa
