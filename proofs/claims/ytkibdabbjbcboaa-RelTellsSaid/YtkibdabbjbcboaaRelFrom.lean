/-
  The contract of rel.From. No condition.
-/
import Derived.Test.YtkibdabbjbcboaaRelFromLaw
namespace Go.Proofs.Ytkibdabbjbcboaa
open Go.Ren Go.RowKit
set_option linter.unusedVariables false

set_option maxRecDepth 100000 in
set_option maxHeartbeats 800000 in
theorem rfrom_any (w : World) (ve vp : Value) (V : Nat → Vs) (L : Lg) (h : LogIn w ve vp V L) (hl : L.ev.length ≤ 64) :
    Calls Try.prog 22 #[.agg #[ve, vp]] w (RelPost (relN L) (fromB L) w) := by
  have q1 := Sl.cells_eq h.row
  have q2 := Sl.cells_eq h.prow
  have s1 := Sl.run_st (P := Try.prog) h.row
  have s2 := Sl.run_st (P := Try.prog) h.prow
  have l1 := h.row.run_len (P := Try.prog) IEv.und 3
  have HI := Lib.hid (h.row.run_idx (P := Try.prog) IEv.und IEv.size .i64)
  obtain ⟨w0, hw0⟩ : ∃ w0, w0 = w.alloc (.cells #[ve, vp] 25) := ⟨_, rfl⟩
  obtain ⟨g0, hg0⟩ : ∃ g, g = w.heap.size := ⟨_, rfl⟩
  have x0 : Ext w w0 := by rw [hw0]; exact (Mod.refl _ _).alloc _
  have b0 : LogBox w0 g0 ve vp := ⟨by rw [hw0, hg0]; exact heap_alloc_new _ _⟩
  have HW := Lib.hid (And.intro hw0 (And.intro hg0 x0))
  have KE : Hid (∀ w', Ext w0 w' → LogIn w' ve vp V L ∧ LogBox w' g0 ve vp) := Lib.hid fun w' x => ⟨h.ext (x0.trans x), b0.ext x⟩
  have HN := Lib.hid hl
  obtain ⟨c0, c1⟩ := b0.cells
  clear hw0 hg0 x0 b0 h hl
  go_enter Try.func22, Try.ntmps22
  go_upto_region 1 with fail
  rw [← HW.out.1, ← HW.out.2.1]
  clear s1 s2
  go_wp2_with fail
  refine (may_any _ ve vp V L (KE.out _ (Mod.refl _ _)).1).mono ?_
  rintro e w1 ⟨rfl, x1⟩
  clear c0 c1
  cases hm : mayL L with
  | false =>
    have HM := Lib.hid hm
    clear hm
    go_wp2_with fail
    refine (rempty_any _ 0 (by decide)).mono ?_
    rintro e w2 h2
    have H2 := Lib.hid h2
    obtain ⟨g, rv, r, M, rfl, -⟩ := h2
    go_wp2_with fail
    go_ret
    exact H2.out.none HM.out (HW.out.2.2.trans x1)
  | true =>
    have HM := Lib.hid hm
    clear hm
    obtain ⟨c0, c1⟩ := (KE.out _ x1).2.cells
    go_wp2_with fail
    refine (rempty_any _ L.ev.length HN.out).mono ?_
    rintro e w2 h2
    obtain ⟨g, rv, r, rfl, hlp⟩ := h2.loop
    clear h2 c0 c1
    obtain ⟨c0, c1⟩ := (KE.out _ (x1.trans hlp.x)).2.cells
    have R0 : RelLoop w1 g rv r L.ev.length (fun x y => decide (y < 0) && fromB L x y) w2 := hlp.congr fun a b _ _ => by simp
    have X1 := Lib.hid x1
    have hle : (L.ev.length : Int) ≤ 64 := by have := HN.out; omega
    clear hlp x1
    go_wp2_with fail
    clear c0 c1
    go_loopw [19] (fun s wr => ∃ b : Nat, b ≤ L.ev.length ∧ s = .int .i64 (b : Int) ∧ RelLoop w1 g rv r L.ev.length (fun x y => decide (y < b) && fromB L x y) wr) (fun s _ => L.ev.length - (intOf s).toNat)
    case atStart => exact ⟨0, Nat.zero_le _, rfl, R0⟩
    case round =>
      obtain ⟨b, hb, rfl, hlp⟩ := hrel
      clear R0
      by_cases hlt : b < L.ev.length
      · have hlt' : (b : Int) < (L.ev.length : Int) := by omega
        have i0 := HI.out b hlt
        have hlg := (KE.out _ (X1.out.trans hlp.x)).1
        obtain ⟨c0, c1, c2, c3, c4, c5, c6, c7, c8, c9⟩ := hlg.cells hlt
        have hea := hlg.ev b hlt
        have HF := Lib.hid (fun k hk => may_from HM.out hlt (k := k) hk)
        have HL8 := may_small HM.out hlt
        obtain ⟨e, he⟩ : ∃ e, e = evn L.ev b := ⟨_, rfl⟩
        obtain ⟨v, hv⟩ : ∃ v, v = V b := ⟨_, rfl⟩
        obtain ⟨A, hA⟩ : ∃ A, A = at_ ve (b * 10) := ⟨_, rfl⟩
        rw [← hA] at i0 c0 c1 c2 c3 c4 c5 c6 c7 c8 c9
        rw [← he] at c0 c1 c2 c3 c4 c5 c6 hea HF HL8
        rw [← hv] at c7 c8 c9 hea
        obtain ⟨k1, k2, k3, t1, t2, t3⟩ := ev_facts hea
        obtain ⟨w5, hw5⟩ : ∃ w5, w5 = wr.alloc (.cells (evArr e v) 46) := ⟨_, rfl⟩
        obtain ⟨g5, hg5⟩ : ∃ g, g = wr.heap.size := ⟨_, rfl⟩
        have x5 : Ext wr w5 := by rw [hw5]; exact (Mod.refl _ _).alloc _
        have b5 : EvBox w5 g5 e v := by rw [hw5, hg5]; exact EvBox.of wr e v
        have l5 := hea.fr.sl.run_len (P := Try.prog) II.und 3
        have J5 := Lib.hid (hea.fr.sl.run_idx (P := Try.prog) II.und II.size .i64)
        have R5 : RelLoop w1 g rv r L.ev.length (fromP L b 0) w5 := (hlp.ext x5).congr fun x y _ _ => (fromP_zero L b x y).symm
        have HW5 := Lib.hid (And.intro hw5 (And.intro hg5 (And.intro hea (And.intro he hv))))
        have d9 := b5.cells.2.2.2.2.2.2.2.2.2
        clear hlg hea he hv hA hw5 hg5 x5 b5 hlp
        go_upto_region 7 with fail
        rw [← HW5.out.1, ← HW5.out.2.1]
        clear c0 c1 c2 c3 c4 c5 c6 c7 c8 c9 k1 k2 k3 t1 t2 t3 i0
        go_wp2_with fail
        clear d9
        go_loopw [27] (fun s wr => ∃ k : Nat, k ≤ e.fr.length ∧ s = .int .i64 (k : Int) ∧ RelLoop w1 g rv r L.ev.length (fromP L b k) wr) (fun s _ => e.fr.length - (intOf s).toNat)
        case atStart => exact ⟨0, Nat.zero_le _, rfl, R5⟩
        case round =>
          obtain ⟨k, hk, rfl, hlp⟩ := hrel
          clear R5
          by_cases hkl : k < e.fr.length
          · have hkl' : (k : Int) < (e.fr.length : Int) := by omega
            have j0 := J5.out k hkl
            simp only [Nat.mul_one] at j0
            have cF := IntsAt.cell (l := e.fr) (v := v.f) (w := wr) (by have := (KE.out _ (X1.out.trans hlp.x)).1.ev b hlt; rw [← HW5.out.2.2.2.1, ← HW5.out.2.2.2.2] at this; exact this.fr) hkl
            have HE : Hid (e = evn L.ev b) := Lib.hid HW5.out.2.2.2.1
            rcases HF.out k hkl with hx | ⟨a, hx, hab⟩
            · rw [hx] at cF
              have HX : Hid (∀ x y, fromP L b k x y = fromP L b (k + 1) x y) := Lib.hid (by have := HE.out; subst this; exact fromP_neg hkl hx)
              have HLP := Lib.hid hlp
              clear hx hlp
              go_wp2_with fail
              go_roundw
              case rel => exact ⟨k + 1, by omega, by go_num, HLP.out.congr fun x y _ _ => HX.out x y⟩
              case measure => simp [intOf]; omega
            · rw [hx] at cF
              have HX : Hid (∀ x y, putR (fromP L b k) a b x y = fromP L b (k + 1) x y) := Lib.hid (by have := HE.out; subst this; exact fromP_put hkl hx)
              have HLP := Lib.hid hlp
              clear hx hlp
              go_wp2_with fail
              refine (rput_any w1 _ g rv r _ _ HLP.out a b (by omega) hlt).mono ?_
              rintro en w8 ⟨rfl, hlp8, -⟩
              have HLP8 := Lib.hid hlp8
              clear hlp8
              go_wp2_with fail
              go_roundw
              case rel => exact ⟨k + 1, by omega, by go_num, HLP8.out.congr fun x y _ _ => HX.out x y⟩
              case measure => simp [intOf]; omega
          · have hkl' : ¬ (k : Int) < (e.fr.length : Int) := by omega
            have HK : Hid (k = e.fr.length) := Lib.hid (by omega)
            have HLP := Lib.hid hlp
            clear hlp
            go_wp2_with fail
            go_roundw
            case rel => exact ⟨b + 1, by omega, by go_num, HLP.out.congr fun x y _ _ => fromP_all (by rw [← HW5.out.2.2.2.1]; exact HK.out) x y⟩
            case measure => simp [intOf]; omega
      · have hlt' : ¬ (b : Int) < (L.ev.length : Int) := by omega
        have HK : Hid (b = L.ev.length) := Lib.hid (by omega)
        have HLP := Lib.hid hlp
        clear hlp
        go_wp2_with fail
        go_ret
        have e0 : relN L = L.ev.length := by unfold relN; rw [if_pos HM.out]
        rw [e0]
        exact ((HLP.out.congr fun x y _ hy => by have := HK.out; simp; intro _; omega).back (HW.out.2.2.trans X1.out)).post
end Go.Proofs.Ytkibdabbjbcboaa
