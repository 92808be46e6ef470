/-
  The contract of model.Coherent. No condition.
-/
import Derived.Test.YthmkcgiiakinmaaModHid
namespace Go.Proofs.Ythmkcgiiakinmaa
open Go.Ren Go.RowKit
set_option linter.unusedVariables false
theorem may_range {L : Lg} (h : mayL L = true) {r : Nat} (hr : r < L.ev.length) : 0 ≤ (evn L.ev r).at_ ∧ (evn L.ev r).at_ ≤ 256 := by
  have := evFields_sizes (evOk1_fields ((mayL_iff.1 h).2.1 r hr)); exact ⟨this.2.2.1, this.2.2.2.1⟩
set_option maxRecDepth 100000 in
set_option maxHeartbeats 1600000 in
theorem coherent_any (w : World) (ve vp : Value) (V : Nat → Vs) (L : Lg) (h : LogIn w ve vp V L) (hl : L.ev.length ≤ 64) :
    Calls Try.prog 39 #[.agg #[ve, vp]] w (NumPost (cohI L) w) := by
  have HLE := Lib.hid hl
  have hle : (L.ev.length : Int) ≤ 64 := by omega
  clear hl
  have q1 := Sl.cells_eq h.row
  have q2 := Sl.cells_eq h.prow
  have s1 := Sl.run_st (P := Try.prog) h.row
  have s2 := Sl.run_st (P := Try.prog) h.prow
  obtain ⟨w0, hw0⟩ : ∃ w0, w0 = w.alloc (.cells #[ve, vp] 25) := ⟨_, rfl⟩
  obtain ⟨g0, hg0⟩ : ∃ g, g = w.heap.size := ⟨_, rfl⟩
  have x0 : Ext w w0 := by rw [hw0]; exact (Mod.refl _ _).alloc _
  have b0 : LogBox w0 g0 ve vp := ⟨by rw [hw0, hg0]; exact heap_alloc_new _ _⟩
  have HW := Lib.hid (And.intro hw0 (And.intro hg0 x0))
  have KE : Hid (∀ w', Ext w0 w' → LogIn w' ve vp V L ∧ LogBox w' g0 ve vp) := Lib.hid fun w' x => ⟨h.ext (x0.trans x), b0.ext x⟩
  have HI := Lib.hid (h.row.run_idx (P := Try.prog) IEv.und IEv.size .i64)
  have HJ := Lib.hid (h.prow.run_idx (P := Try.prog) IP.und IP.size .i64)
  have l1 := h.row.run_len (P := Try.prog) IEv.und 3
  have l2 := h.prow.run_len (P := Try.prog) IP.und 3
  obtain ⟨c0, c1⟩ := b0.cells
  clear hw0 hg0 x0 b0 h
  go_enter Try.func39, Try.ntmps39
  go_upto_region 1 with fail
  rw [← HW.out.1, ← HW.out.2.1]
  clear s1 s2
  go_wp2_with fail
  refine (may_any _ ve vp V L (KE.out _ (Mod.refl _ _)).1).mono ?_
  rintro e w1 ⟨rfl, y1⟩
  clear c0 c1
  cases hm : mayL L with
  | false =>
    have HC : Hid (cohI L = 0) := Lib.hid (by unfold cohI; rw [hm]; rfl)
    clear hm
    go_wp2_with fail
    go_ret
    exact ⟨by rw [HC.out]; rfl, HW.out.2.2.trans y1⟩
  | true =>
    have HM := Lib.hid hm
    have HC : Hid (cohI L = fstN (cohB L) L.ev.length) := Lib.hid (by unfold cohI; rw [if_pos hm])
    clear hm
    obtain ⟨c0, c1⟩ := (KE.out _ y1).2.cells
    go_wp2_with fail
    refine (rbefore_any _ ve vp V L (KE.out _ y1).1 HLE.out).mono ?_
    rintro e w2 h2
    obtain ⟨pr, rfl, r2, y2⟩ := rpost_is h2
    rw [relN_may HM.out] at r2
    have HR2 := Lib.hid r2
    have HX2 := Lib.hid (y1.trans y2)
    clear h2 r2 c0 c1
    obtain ⟨c0, c1⟩ := (KE.out _ HX2.out).2.cells
    go_wp2_with fail
    clear c0 c1
    go_loopw [16] (fun s wr => ∃ r : Nat, r ≤ L.ev.length ∧ s = .int .i64 (r : Int) ∧ (∀ j, j < r → cohB L j = false) ∧ Ext w2 wr) (fun s _ => L.ev.length - (intOf s).toNat)
    case atStart => exact ⟨0, Nat.zero_le _, rfl, fun j hj => absurd hj (Nat.not_lt_zero _), Mod.refl _ _⟩
    case round =>
      obtain ⟨r, hr, rfl, hn, xx⟩ := hrel
      have HN := Lib.hid hn
      have HX := Lib.hid xx
      clear hn xx
      by_cases hlt : r < L.ev.length
      · have hlt' : (r : Int) < (L.ev.length : Int) := by omega
        have i0 := HI.out r hlt
        have hlg := (KE.out _ (HX2.out.trans HX.out)).1
        obtain ⟨c0, c1, c2, c3, c4, c5, c6, c7, c8, c9⟩ := hlg.cells hlt
        have hea := hlg.ev r hlt
        obtain ⟨e, he⟩ : ∃ e, e = evn L.ev r := ⟨_, rfl⟩
        obtain ⟨v, hv⟩ : ∃ v, v = V r := ⟨_, rfl⟩
        obtain ⟨A, hA⟩ : ∃ A, A = at_ ve (r * 10) := ⟨_, rfl⟩
        rw [← hA] at i0 c0 c1 c2 c3 c4 c5 c6 c7 c8 c9
        rw [← he] at c0 c1 c2 c3 c4 c5 c6 hea
        rw [← hv] at c7 c8 c9 hea
        obtain ⟨k1, k2, k3, t1, t2, t3⟩ := ev_facts hea
        obtain ⟨w5, hw5⟩ : ∃ w5, w5 = wr.alloc (.cells (evArr e v) 45) := ⟨_, rfl⟩
        obtain ⟨g5, hg5⟩ : ∃ g, g = wr.heap.size := ⟨_, rfl⟩
        have x5 : Ext wr w5 := by rw [hw5]; exact (Mod.refl _ _).alloc _
        have b5 : EvBox w5 g5 e v := by rw [hw5, hg5]; exact EvBox.of wr e v
        have HEA := Lib.hid (hea.ext x5)
        have HE := Lib.hid (And.intro he hv)
        have HW5 := Lib.hid (And.intro hw5 (And.intro hg5 (And.intro x5 b5)))
        have l5 := hea.fr.sl.run_len (P := Try.prog) II.und 3
        have J5 := Lib.hid (hea.fr.sl.run_idx (P := Try.prog) II.und II.size .i64)
        obtain ⟨d0, d1, d2, d3, d4, d5, d6, d7, d8, d9⟩ := b5.cells
        clear hlg hea he hv hA hw5 hg5 x5 b5
        go_upto_region 7 with fail
        rw [← HW5.out.1, ← HW5.out.2.1]
        clear c0 c1 c2 c3 c4 c5 c6 c7 c8 c9 t1 t2 t3 i0
        obtain ⟨ha0, ha1⟩ : 0 ≤ e.at_ ∧ e.at_ ≤ 256 := by rw [HE.out.1]; exact may_range HM.out hlt
        have h8 : (e.fr.length : Int) ≤ 8 := by have := may_small HM.out hlt; rw [← HE.out.1] at this; omega
        go_wp2_with fail
        clear d0 d1 d2 d3 d4 d5 d6 d7 d8 d9
        go_loopw [24] (fun s wq => ∃ i : Nat, i ≤ e.fr.length ∧ s = .int .i64 (i : Int) ∧ (∀ j, j < i → cohP L r j = false) ∧ Ext w5 wq) (fun s _ => e.fr.length - (intOf s).toNat)
        case atStart => exact ⟨0, Nat.zero_le _, rfl, fun j hj => absurd hj (Nat.not_lt_zero _), Mod.refl _ _⟩
        case round =>
          obtain ⟨i, hi, rfl, hn, xq⟩ := hrel
          have HN2 := Lib.hid hn
          have HXQ := Lib.hid xq
          have HXW := Lib.hid (HX.out.trans (HW5.out.2.2.1.trans xq))
          clear hn
          by_cases hil : i < e.fr.length
          · have hil' : (i : Int) < (e.fr.length : Int) := by omega
            have j0 := J5.out i hil
            simp only [Nat.mul_one] at j0
            have cF := IntsAt.cell (l := e.fr) (v := v.f) ((HEA.out.ext xq).fr) hil
            obtain ⟨x, hx⟩ : ∃ x, x = e.fr[i] := ⟨_, rfl⟩
            rw [← hx] at cF
            have hfx : frn L r i = x := by rw [hx]; exact frn_eq HE.out.1 hil
            obtain ⟨Q1, hQ1⟩ : ∃ Q, Q = hasB L.ev.length (hbB L) (r : Int) x := ⟨_, rfl⟩
            obtain ⟨Q2, hQ2⟩ : ∃ Q, Q = hidB L r x (e.at_ + i) := ⟨_, rfl⟩
            have HP : Hid (cohP L r i = (Q1 || Q2)) := Lib.hid (by unfold cohP; rw [hfx, hQ1, hQ2, HE.out.1])
            have HQ1 := Lib.hid hQ1.symm
            have HQ2 := Lib.hid hQ2.symm
            have HNO : Hid (cohP L r i = false → ∀ j, j < i + 1 → cohP L r j = false) := Lib.hid fun h j hj => by
              by_cases e : j = i
              · subst e; exact h
              · exact HN2.out j (by omega)
            have HYES : Hid (cohP L r i = true → (r : Int) = cohI L) := Lib.hid fun h => by
              rw [HC.out, fstN_hit hlt HN.out (anyB_iff.2 ⟨i, by rw [← HE.out.1]; exact hil, h⟩)]
            clear hx hfx hQ1 hQ2 xq
            go_wp2_with fail
            refine (has_any _ _ _ _ (HR2.out.ext HXW.out) (r : Int) x).mono ?_
            rintro en w6 ⟨rfl, y6⟩
            rw [HQ1.out]
            have X6 := Lib.hid (HXW.out.trans y6)
            have HXQ6 := Lib.hid (HXQ.out.trans y6)
            clear y6 cF
            cases Q1 with
            | true =>
              have HYY := Lib.hid (HYES.out (by rw [HP.out]; rfl))
              go_wp2_with fail
              go_ret
              exact ⟨by rw [← HYY.out]; rfl, HW.out.2.2.trans (HX2.out.trans X6.out)⟩
            | false =>
              obtain ⟨c0, c1⟩ := (KE.out _ (HX2.out.trans X6.out)).2.cells
              obtain ⟨d0, d1, d2, d3, d4, d5, d6, d7, d8, d9⟩ := (HW5.out.2.2.2.ext HXQ6.out).cells
              go_wp2_with fail
              refine (hidden_any _ ve vp V L (KE.out _ (HX2.out.trans X6.out)).1 HLE.out _ (HR2.out.ext X6.out) r hlt x (e.at_ + i) (by unfold I64; omega)).mono ?_
              rintro en w7 ⟨rfl, y7⟩
              rw [HQ2.out]
              have X7 := Lib.hid (X6.out.trans y7)
              have HXQ7 := Lib.hid (HXQ6.out.trans y7)
              clear y7 c0 c1 d0 d1 d2 d3 d4 d5 d6 d7 d8 d9
              cases Q2 with
              | true =>
                have HYY := Lib.hid (HYES.out (by rw [HP.out]; rfl))
                go_wp2_with fail
                go_ret
                exact ⟨by rw [← HYY.out]; rfl, HW.out.2.2.trans (HX2.out.trans X7.out)⟩
              | false =>
                have HNN := Lib.hid (HNO.out (by rw [HP.out]; rfl))
                go_wp2_with fail
                go_roundw
                case rel => exact ⟨i + 1, by omega, by go_num, HNN.out, HXQ7.out⟩
                case measure => simp [intOf]; omega
          · have hil' : ¬ (i : Int) < (e.fr.length : Int) := by omega
            have HNN : Hid (∀ j, j < r + 1 → cohB L j = false) := Lib.hid fun j hj => by
              by_cases ej : j = r
              · subst ej; exact anyB_none.2 fun i' hi' => HN2.out i' (by rw [← HE.out.1] at hi'; omega)
              · exact HN.out j (by omega)
            clear xq
            go_wp2_with fail
            go_roundw
            case rel => exact ⟨r + 1, by omega, by go_num, HNN.out, HXW.out⟩
            case measure => simp [intOf]; omega
      · have hlt' : ¬ (r : Int) < (L.ev.length : Int) := by omega
        have HF : Hid (cohI L = -1) := Lib.hid (by rw [HC.out]; exact fstN_none fun j hj => HN.out j (by omega))
        go_wp2_with fail
        go_ret
        exact ⟨by rw [HF.out]; rfl, HW.out.2.2.trans (HX2.out.trans HX.out)⟩
end Go.Proofs.Ythmkcgiiakinmaa
