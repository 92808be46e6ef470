/-
  The contract of renref14.From. No condition. Two boxes with an event of the document each. No condition.
-/
import Derived.Test.YthmkcgiiakinmaaJRvRel
import Derived.Test.YthmkcgiiakinmaaJRelAt
namespace Go.Proofs.Ythmkcgiiakinmaa
open Go.Ren Go.RowKit
set_option linter.unusedVariables false
theorem updM_put (M : Nat → Nat → Bool) (a b x y : Nat) : updM M a b true x y = putR M a b x y := by
  unfold updM putR
  by_cases h : x = a ∧ y = b
  · simp [h]
  · rw [if_neg h]
    by_cases h1 : x = a
    · have h2 : ¬ y = b := fun e => h ⟨h1, e⟩
      simp [h2]
    · simp [h1]
theorem relN_yes {L : Lg} (h : mayL L = true) : relN L = L.ev.length := by unfold relN; rw [if_pos h]
theorem relN_no {L : Lg} (h : mayL L = false) : relN L = 0 := by unfold relN; rw [h]; rfl
set_option maxRecDepth 100000 in
set_option maxHeartbeats 800000 in
theorem rrfrom_any (w : World) (ve vp : Value) (V : Nat → Vs) (L : Lg) (h : LogIn w ve vp V L) (hsm : SmL L) (hl : L.ev.length ≤ 64) :
    Calls Try.prog 102 #[.agg #[ve, vp]] w (RRPost (relN L) (fromB L) w) := by
  have HSM := Lib.hid hsm
  have HN := Lib.hid hl
  have hle : (L.ev.length : Int) ≤ 64 := by omega
  clear hsm hl
  have q1 := Sl.cells_eq h.row
  have q2 := Sl.cells_eq h.prow
  have s1 := Sl.run_st (P := Try.prog) h.row
  have s2 := Sl.run_st (P := Try.prog) h.prow
  obtain ⟨w0, hw0⟩ : ∃ w0, w0 = w.alloc (.cells #[ve, vp] 30) := ⟨_, rfl⟩
  obtain ⟨g0, hg0⟩ : ∃ g, g = w.heap.size := ⟨_, rfl⟩
  have x0 : Ext w w0 := by rw [hw0]; exact (Mod.refl _ _).alloc _
  have b0 : RLogBox w0 g0 ve vp := ⟨by rw [hw0, hg0]; exact heap_alloc_new _ _⟩
  have HW := Lib.hid (And.intro hw0 (And.intro hg0 x0))
  have KE : Hid (∀ w', Ext w0 w' → LogIn w' ve vp V L ∧ RLogBox w' g0 ve vp) := Lib.hid fun w' x => ⟨h.ext (x0.trans x), b0.ext x⟩
  have HI := Lib.hid (h.row.run_idx (P := Try.prog) IRe.und IRe.size .i64)
  have HJ := Lib.hid (h.prow.run_idx (P := Try.prog) IP.und IP.size .i64)
  have l1 := h.row.run_len (P := Try.prog) IRe.und 3
  have l2 := h.prow.run_len (P := Try.prog) IP.und 3
  obtain ⟨c0, c1⟩ := b0.cells
  clear hw0 hg0 x0 b0 h
  go_enter Try.func102, Try.ntmps102
  go_upto_region 1 with fail
  rw [← HW.out.1, ← HW.out.2.1]
  clear s1 s2
  go_wp2_with fail
  refine (rmay_any _ ve vp V L (KE.out _ (Mod.refl _ _)).1 HSM.out).mono ?_
  rintro e w1 ⟨rfl, x1⟩
  clear c0 c1
  cases hm : mayL L with
  | false =>
    have HM : Hid (relN L = 0) := Lib.hid (relN_no hm)
    clear hm
    go_wp2_with fail
    go_ret
    have e0 := HM.out
    rw [e0]
    exact RRPost.nil _ (HW.out.2.2.trans x1)
  | true =>
    have HM := Lib.hid hm
    clear hm
    obtain ⟨c0, c1⟩ := (KE.out _ x1).2.cells
    go_wp2_with fail
    refine (rrempty_any _ L.ev.length HN.out).mono ?_
    rintro e w2 ⟨rv, R, rfl, hlp⟩
    clear c0 c1
    obtain ⟨c0, c1⟩ := (KE.out _ (x1.trans hlp.x)).2.cells
    have R0 : Hid (RRLoop w1 rv R L.ev.length (fun x y => decide (y < 0) && fromB L x y) w2) := Lib.hid (hlp.congr fun a b _ _ => by simp)
    have X1 := Lib.hid x1
    clear hlp x1
    go_wp2_with fail
    clear c0 c1
    go_loopw [4] (fun s wr => ∃ b : Nat, b ≤ L.ev.length ∧ s = .int .i64 (b : Int) ∧ RRLoop w1 rv R L.ev.length (fun x y => decide (y < b) && fromB L x y) wr) (fun s _ => L.ev.length - (intOf s).toNat)
    case atStart => exact ⟨0, Nat.zero_le _, rfl, R0.out⟩
    case round =>
      obtain ⟨b, hb, rfl, hlp⟩ := hrel
      obtain ⟨c0, c1⟩ := (KE.out _ (X1.out.trans hlp.x)).2.cells
      by_cases hlt : b < L.ev.length
      · have hlt' : (b : Int) < (L.ev.length : Int) := by omega
        have i0 := HI.out b hlt
        have hea := (KE.out _ (X1.out.trans hlp.x)).1.ev b hlt
        have HF := Lib.hid (fun k hk => may_from HM.out hlt (k := k) hk)
        have HL8 := may_small HM.out hlt
        have R5 := Lib.hid (hlp.congr (M' := fromP L b 0) fun x y _ _ => (fromP_zero L b x y).symm)
        have l5 := hea.fr.sl.run_len (P := Try.prog) II.und 3
        have J5 := Lib.hid (hea.fr.sl.run_idx (P := Try.prog) II.und II.size .i64)
        obtain ⟨e, he⟩ : ∃ e, e = evn L.ev b := ⟨_, rfl⟩
        obtain ⟨v, hv⟩ : ∃ v, v = V b := ⟨_, rfl⟩
        obtain ⟨A, hA⟩ : ∃ A, A = at_ ve (b * 10) := ⟨_, rfl⟩
        rw [← hA] at i0
        rw [← he] at HF HL8 l5 J5
        rw [← hv] at l5 J5
        have HE := Lib.hid (And.intro he (And.intro hv hA))
        clear hlp hea he hv hA
        go_wp2_with fail
        clear c0 c1
        go_loopw [5] (fun s wr => ∃ k : Nat, k ≤ e.fr.length ∧ s = .int .i64 (k : Int) ∧ RRLoop w1 rv R L.ev.length (fromP L b k) wr) (fun s _ => e.fr.length - (intOf s).toNat)
        case atStart => exact ⟨0, Nat.zero_le _, rfl, R5.out⟩
        case round =>
          obtain ⟨k, hk, rfl, hlp⟩ := hrel
          have hlg := (KE.out _ (X1.out.trans hlp.x)).1
          obtain ⟨c0, c1⟩ := (KE.out _ (X1.out.trans hlp.x)).2.cells
          have c9 := (hlg.cells hlt).2.2.2.2.2.2.2.2.2
          rw [← HE.out.2.1, ← HE.out.2.2] at c9
          have hea := hlg.ev b hlt
          rw [← HE.out.1, ← HE.out.2.1] at hea
          by_cases hkl : k < e.fr.length
          · have hkl' : (k : Int) < (e.fr.length : Int) := by omega
            have j0 := J5.out k hkl
            simp only [Nat.mul_one] at j0
            have cF := IntsAt.cell (l := e.fr) (v := v.f) (w := wr) hea.fr hkl
            have HEE : Hid (e = evn L.ev b) := Lib.hid HE.out.1
            rcases HF.out k hkl with hx | ⟨a, hx, hab⟩
            · rw [hx] at cF
              have HX : Hid (∀ x y, fromP L b k x y = fromP L b (k + 1) x y) := Lib.hid (by have := HEE.out; subst this; exact fromP_neg hkl hx)
              have HLP := Lib.hid hlp
              clear hx hlp hlg hea
              go_wp2_with fail
              go_roundw
              case rel => exact ⟨k + 1, by omega, by go_num, HLP.out.congr fun x y _ _ => HX.out x y⟩
              case measure => simp [intOf]; omega
            · rw [hx] at cF
              have hal : a < L.ev.length := by omega
              have HX : Hid (∀ x y, putR (fromP L b k) a b x y = fromP L b (k + 1) x y) := Lib.hid (by have := HEE.out; subst this; exact fromP_put hkl hx)
              have HLP := Lib.hid (hlp.put hal hlt true)
              obtain ⟨f1, f2, f3⟩ := hlp.is.facts hal hlt
              obtain ⟨i1, i2⟩ := hlp.is.idx hal hlt
              clear hx hlp hlg hea
              go_wp2_with fail
              go_roundw
              case rel => exact ⟨k + 1, by omega, by go_num, HLP.out.congr fun x y _ _ => (updM_put _ _ _ _ _).trans (HX.out x y)⟩
              case measure => simp [intOf]; omega
          · have hkl' : ¬ (k : Int) < (e.fr.length : Int) := by omega
            have HK : Hid (k = e.fr.length) := Lib.hid (by omega)
            have HLP := Lib.hid hlp
            clear hlp hlg hea
            go_wp2_with fail
            go_roundw
            case rel => exact ⟨b + 1, by omega, by go_num, HLP.out.congr fun x y _ _ => fromP_all (by rw [← HE.out.1]; exact HK.out) x y⟩
            case measure => simp [intOf]; omega
      · have hlt' : ¬ (b : Int) < (L.ev.length : Int) := by omega
        have HK : Hid (b = L.ev.length) := Lib.hid (by omega)
        have HLP := Lib.hid hlp
        clear hlp
        go_wp2_with fail
        go_ret
        have e0 := relN_yes HM.out
        rw [e0]
        exact ⟨rv, R, rfl, (HLP.out.congr fun x y _ hy => by have := HK.out; subst this; simp [hy]).back (HW.out.2.2.trans X1.out)⟩
end Go.Proofs.Ythmkcgiiakinmaa
namespace Go.Proofs.Ythmkcgiiakinmaa
open Go.Ren Go.RowKit
set_option linter.unusedVariables false
/-- Two boxes with an event each. -/
def RTwoEv (w0 : World) (x y : Ev) (u v : Vs) (s1 s2 : Value) (wq : World) : Prop := ∃ g1 g2, s1 = .pointer (some ⟨g1, 0, none⟩) ∧ s2 = .pointer (some ⟨g2, 0, none⟩) ∧ REvBox wq g1 x u ∧ REvBox wq g2 y v ∧ Ext w0 wq
theorem RTwoEv.keep {w0 : World} {x y : Ev} {u v : Vs} {s1 s2 : Value} {wq : World} (h : RTwoEv w0 x y u v s1 s2 wq) (hx : EvAt w0 x u) (hy : EvAt w0 y v) : ∃ b1 b2, s1 = .pointer (some ⟨b1, 0, none⟩) ∧ s2 = .pointer (some ⟨b2, 0, none⟩) ∧ Ext w0 wq ∧
    Hid (∀ w', Ext wq w' → (w'.cell? ⟨b1, 0, none⟩ = some (.int .i64 (x).ag) ∧ w'.cell? ⟨b1, 1, none⟩ = some (.int .i64 (x).kind) ∧ w'.cell? ⟨b1, 2, none⟩ = some (.bool (x).seq) ∧ w'.cell? ⟨b1, 3, none⟩ = some (.bool (x).nt) ∧ w'.cell? ⟨b1, 4, none⟩ = some (.int .i64 (x).blk) ∧ w'.cell? ⟨b1, 5, none⟩ = some (.int .i64 (x).at_) ∧ w'.cell? ⟨b1, 6, none⟩ = some (.int .i64 (x).size) ∧ w'.cell? ⟨b1, 7, none⟩ = some u.r ∧ w'.cell? ⟨b1, 8, none⟩ = some u.w ∧ w'.cell? ⟨b1, 9, none⟩ = some u.f) ∧ (w'.cell? ⟨b2, 0, none⟩ = some (.int .i64 (y).ag) ∧ w'.cell? ⟨b2, 1, none⟩ = some (.int .i64 (y).kind) ∧ w'.cell? ⟨b2, 2, none⟩ = some (.bool (y).seq) ∧ w'.cell? ⟨b2, 3, none⟩ = some (.bool (y).nt) ∧ w'.cell? ⟨b2, 4, none⟩ = some (.int .i64 (y).blk) ∧ w'.cell? ⟨b2, 5, none⟩ = some (.int .i64 (y).at_) ∧ w'.cell? ⟨b2, 6, none⟩ = some (.int .i64 (y).size) ∧ w'.cell? ⟨b2, 7, none⟩ = some v.r ∧ w'.cell? ⟨b2, 8, none⟩ = some v.w ∧ w'.cell? ⟨b2, 9, none⟩ = some v.f) ∧ EvAt w' ⟨x.ag, x.kind, x.seq, x.nt, x.blk, x.at_, x.size, x.rd, x.wr, x.fr⟩ u ∧ EvAt w' ⟨y.ag, y.kind, y.seq, y.nt, y.blk, y.at_, y.size, y.rd, y.wr, y.fr⟩ v) := by
  obtain ⟨b1, b2, e1, e2, h1, h2, h3⟩ := h
  exact ⟨b1, b2, e1, e2, h3, Lib.hid fun w' z => ⟨(h1.ext z).cells, (h2.ext z).cells, hx.ext (h3.trans z), hy.ext (h3.trans z)⟩⟩
end Go.Proofs.Ythmkcgiiakinmaa
