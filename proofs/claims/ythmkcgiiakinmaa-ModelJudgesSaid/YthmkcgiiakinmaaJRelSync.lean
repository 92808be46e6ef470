/-
  The contract of rel.Sync. No condition.
-/
import Derived.Test.YthmkcgiiakinmaaJRelAt
namespace Go.Ren
set_option linter.unusedVariables false
def synC (L : Lg) (a b : Nat) : Bool := (evn L.ev a).seq && (evn L.ev b).seq && evEq (evn L.ev a) (evn L.ev b)
theorem synE_C (L : Lg) (a b : Nat) : synE L a b = (fromB L a b && synC L a b) := by unfold synE synC; simp only [Bool.and_assoc]
def synP (L : Lg) (b k : Nat) (x y : Nat) : Bool := (decide (y < b) && synE L x y) || (decide (y = b) && ((evn L.ev b).fr.take k).contains (x : Int) && synC L x b)
theorem synP_zero (L : Lg) (b x y : Nat) : synP L b 0 x y = (decide (y < b) && synE L x y) := by simp [synP]
theorem synP_all {L : Lg} {b k : Nat} (hk : k = (evn L.ev b).fr.length) (x y : Nat) : synP L b k x y = (decide (y < b + 1) && synE L x y) := by
  subst hk
  unfold synP
  rw [List.take_length]
  by_cases e : y = b
  · subst e; simp [synE_C, fromB]
  · rw [Bool.eq_iff_iff]; simp [e]; intro _; omega
theorem synP_no {L : Lg} {b k : Nat} (hk : k < (evn L.ev b).fr.length) (h : (evn L.ev b).fr[k] = -1 ∨ ∃ a : Nat, (evn L.ev b).fr[k] = (a : Int) ∧ synC L a b = false) (x y : Nat) : synP L b k x y = synP L b (k + 1) x y := by
  unfold synP
  rw [List.take_succ_eq_append_getElem hk]
  congr 1
  rw [Bool.eq_iff_iff]
  simp only [Bool.and_eq_true, List.contains_iff_mem, List.mem_append, List.mem_singleton]
  constructor
  · rintro ⟨⟨h1, h2⟩, h3⟩; exact ⟨⟨h1, .inl h2⟩, h3⟩
  · rintro ⟨⟨h1, h2 | h2⟩, h3⟩
    · exact ⟨⟨h1, h2⟩, h3⟩
    · rcases h with h | ⟨a, h, h4⟩
      · omega
      · have : x = a := by omega
        subst this; rw [h4] at h3; cases h3
theorem synP_put {L : Lg} {b k a : Nat} (hk : k < (evn L.ev b).fr.length) (h : (evn L.ev b).fr[k] = (a : Int)) (hs : synC L a b = true) (x y : Nat) : putR (synP L b k) a b x y = synP L b (k + 1) x y := by
  unfold synP putR
  rw [List.take_succ_eq_append_getElem hk, h, Bool.eq_iff_iff]
  simp only [Bool.or_eq_true, Bool.and_eq_true, decide_eq_true_eq, List.contains_iff_mem, List.mem_append, List.mem_singleton, Int.ofNat_inj]
  constructor
  · rintro ((h1 | ⟨⟨h1, h2⟩, h3⟩) | ⟨h1, h2⟩)
    · exact .inl h1
    · exact .inr ⟨⟨h1, .inl h2⟩, h3⟩
    · subst h1; exact .inr ⟨⟨h2, .inr rfl⟩, hs⟩
  · rintro (h1 | ⟨⟨h1, h2 | h2⟩, h3⟩)
    · exact .inl (.inl h1)
    · exact .inl (.inr ⟨⟨h1, h2⟩, h3⟩)
    · exact .inr ⟨h2, h1⟩
def pairP (L : Lg) (i x y : Nat) : Bool := synE L x y || (L.pr.take i).contains ((x : Int), (y : Int))
theorem pairP_zero (L : Lg) (x y : Nat) : pairP L 0 x y = synE L x y := by simp [pairP]
theorem pairP_all {L : Lg} {i : Nat} (hi : i = L.pr.length) (x y : Nat) : pairP L i x y = synB L x y := by subst hi; unfold pairP synB; rw [List.take_length]
theorem pairP_put {L : Lg} {i a b : Nat} (hi : i < L.pr.length) (h : prn L.pr i = ((a : Int), (b : Int))) (x y : Nat) : putR (pairP L i) a b x y = pairP L (i + 1) x y := by
  unfold pairP putR
  rw [prn_eq hi] at h
  rw [List.take_succ_eq_append_getElem hi, h, Bool.eq_iff_iff]
  simp only [Bool.or_eq_true, Bool.and_eq_true, decide_eq_true_eq, List.contains_iff_mem, List.mem_append, List.mem_singleton, Prod.mk.injEq, Int.ofNat_inj]
  constructor
  · rintro ((h1 | h1) | h1)
    · exact .inl h1
    · exact .inr (.inl h1)
    · exact .inr (.inr h1)
  · rintro (h1 | h1 | h1)
    · exact .inl (.inl h1)
    · exact .inl (.inr h1)
    · exact .inr h1
end Go.Ren
namespace Go.Proofs.Ythmkcgiiakinmaa
open Go.Ren Go.RowKit
set_option linter.unusedVariables false

set_option maxRecDepth 100000 in
set_option maxHeartbeats 1600000 in
theorem rsync_any (w : World) (ve vp : Value) (V : Nat → Vs) (L : Lg) (h : LogIn w ve vp V L) (hl : L.ev.length ≤ 64) :
    Calls Try.prog 63 #[.agg #[ve, vp]] w (RelPost (relN L) (synB L) w) := by
  have q1 := Sl.cells_eq h.row
  have q2 := Sl.cells_eq h.prow
  have s1 := Sl.run_st (P := Try.prog) h.row
  have s2 := Sl.run_st (P := Try.prog) h.prow
  have l1 := h.row.run_len (P := Try.prog) IEv.und 3
  have l2 := h.prow.run_len (P := Try.prog) IP.und 3
  have HI := Lib.hid (h.row.run_idx (P := Try.prog) IEv.und IEv.size .i64)
  have HJ := Lib.hid (h.prow.run_idx (P := Try.prog) IP.und IP.size .i64)
  obtain ⟨w0, hw0⟩ : ∃ w0, w0 = w.alloc (.cells #[ve, vp] 25) := ⟨_, rfl⟩
  obtain ⟨g0, hg0⟩ : ∃ g, g = w.heap.size := ⟨_, rfl⟩
  have x0 : Ext w w0 := by rw [hw0]; exact (Mod.refl _ _).alloc _
  have b0 : LogBox w0 g0 ve vp := ⟨by rw [hw0, hg0]; exact heap_alloc_new _ _⟩
  have HW := Lib.hid (And.intro hw0 (And.intro hg0 x0))
  have KE : Hid (∀ w', Ext w0 w' → LogIn w' ve vp V L ∧ LogBox w' g0 ve vp) := Lib.hid fun w' x => ⟨h.ext (x0.trans x), b0.ext x⟩
  have HN := Lib.hid hl
  obtain ⟨c0, c1⟩ := b0.cells
  clear hw0 hg0 x0 b0 h hl
  go_enter Try.func63, Try.ntmps63
  go_upto_region 1 with fail
  rw [← HW.out.1, ← HW.out.2.1]
  clear s1 s2
  go_wp2_with fail
  refine (may_any _ ve vp V L (KE.out _ (Mod.refl _ _)).1).mono ?_
  rintro e w1 ⟨rfl, x1⟩
  clear c0 c1
  cases hm : mayL L with
  | false =>
    have HM := Lib.hid hm
    clear hm
    go_wp2_with fail
    refine (rempty_any _ 0 (by decide)).mono ?_
    rintro e w2 h2
    have H2 := Lib.hid h2
    obtain ⟨g, rv, r, M, rfl, -⟩ := h2
    go_wp2_with fail
    go_ret
    exact H2.out.none HM.out (HW.out.2.2.trans x1)
  | true =>
    have HM := Lib.hid hm
    clear hm
    obtain ⟨c0, c1⟩ := (KE.out _ x1).2.cells
    go_wp2_with fail
    refine (rempty_any _ L.ev.length HN.out).mono ?_
    rintro e w2 h2
    obtain ⟨g, rv, r, rfl, hlp⟩ := h2.loop
    clear h2 c0 c1
    obtain ⟨c0, c1⟩ := (KE.out _ (x1.trans hlp.x)).2.cells
    have R0 : RelLoop w1 g rv r L.ev.length (fun x y => decide (y < 0) && synE L x y) w2 := hlp.congr fun a b _ _ => by simp
    have X1 := Lib.hid x1
    have hle : (L.ev.length : Int) ≤ 64 := by have := HN.out; omega
    have hle2 : (L.pr.length : Int) ≤ 1000 := by have := (mayL_iff.1 HM.out).1.2; omega
    clear hlp x1
    go_wp2_with fail
    clear c0 c1
    go_loopw [21] (fun s wr => ∃ b : Nat, b ≤ L.ev.length ∧ s = .int .i64 (b : Int) ∧ RelLoop w1 g rv r L.ev.length (fun x y => decide (y < b) && synE L x y) wr) (fun s _ => L.ev.length - (intOf s).toNat)
    case atStart => exact ⟨0, Nat.zero_le _, rfl, R0⟩
    case round =>
      obtain ⟨b, hb, rfl, hlp⟩ := hrel
      clear R0
      by_cases hlt : b < L.ev.length
      · have hlt' : (b : Int) < (L.ev.length : Int) := by omega
        have i0 := HI.out b hlt
        have hlg := (KE.out _ (X1.out.trans hlp.x)).1
        obtain ⟨c0, c1, c2, c3, c4, c5, c6, c7, c8, c9⟩ := hlg.cells hlt
        have hea := hlg.ev b hlt
        have HF := Lib.hid (fun k hk => may_from HM.out hlt (k := k) hk)
        have HL8 := may_small HM.out hlt
        obtain ⟨e, he⟩ : ∃ e, e = evn L.ev b := ⟨_, rfl⟩
        obtain ⟨v, hv⟩ : ∃ v, v = V b := ⟨_, rfl⟩
        obtain ⟨A, hA⟩ : ∃ A, A = at_ ve (b * 10) := ⟨_, rfl⟩
        rw [← hA] at i0 c0 c1 c2 c3 c4 c5 c6 c7 c8 c9
        rw [← he] at c0 c1 c2 c3 c4 c5 c6 hea HF HL8
        rw [← hv] at c7 c8 c9 hea
        obtain ⟨k1, k2, k3, t1, t2, t3⟩ := ev_facts hea
        obtain ⟨w5, hw5⟩ : ∃ w5, w5 = wr.alloc (.cells (evArr e v) 45) := ⟨_, rfl⟩
        obtain ⟨g5, hg5⟩ : ∃ g, g = wr.heap.size := ⟨_, rfl⟩
        have x5 : Ext wr w5 := by rw [hw5]; exact (Mod.refl _ _).alloc _
        have b5 : EvBox w5 g5 e v := by rw [hw5, hg5]; exact EvBox.of wr e v
        have l5 := hea.fr.sl.run_len (P := Try.prog) II.und 3
        have J5 := Lib.hid (hea.fr.sl.run_idx (P := Try.prog) II.und II.size .i64)
        have R5 : RelLoop w1 g rv r L.ev.length (synP L b 0) w5 := (hlp.ext x5).congr fun x y _ _ => (synP_zero L b x y).symm
        have HW5 := Lib.hid (And.intro hw5 (And.intro hg5 (And.intro hea (And.intro he (And.intro hv b5)))))
        have d9 := b5.cells.2.2.2.2.2.2.2.2.2
        clear hlg hea he hv hA hw5 hg5 x5 b5 hlp
        go_upto_region 7 with fail
        rw [← HW5.out.1, ← HW5.out.2.1]
        clear c0 c1 c2 c3 c4 c5 c6 c7 c8 c9 t1 t2 t3 i0
        go_wp2_with fail
        clear d9
        go_loopw [29] (fun s wr => ∃ k : Nat, k ≤ e.fr.length ∧ s = .int .i64 (k : Int) ∧ RelLoop w1 g rv r L.ev.length (synP L b k) wr ∧ EvBox wr g5 e v) (fun s _ => e.fr.length - (intOf s).toNat)
        case atStart => exact ⟨0, Nat.zero_le _, rfl, R5, HW5.out.2.2.2.2.2⟩
        case round =>
          obtain ⟨k, hk, rfl, hlp, hbx⟩ := hrel
          clear R5
          by_cases hkl : k < e.fr.length
          · have hkl' : (k : Int) < (e.fr.length : Int) := by omega
            have j0 := J5.out k hkl
            simp only [Nat.mul_one] at j0
            have hlg := (KE.out _ (X1.out.trans hlp.x)).1
            have hea : EvAt wr e v := by have := hlg.ev b hlt; rw [← HW5.out.2.2.2.1, ← HW5.out.2.2.2.2.1] at this; exact this
            have cF := IntsAt.cell (l := e.fr) (v := v.f) (w := wr) hea.fr hkl
            have HE : Hid (e = evn L.ev b) := Lib.hid HW5.out.2.2.2.1
            obtain ⟨S1, hS1⟩ : ∃ S, S = e.seq := ⟨_, rfl⟩
            have HS1 := Lib.hid hS1
            have HB5 := Lib.hid hbx
            rcases HF.out k hkl with hx | ⟨a, hx, hab⟩
            · rw [hx] at cF
              have HX : Hid (∀ x y, synP L b k x y = synP L b (k + 1) x y) := Lib.hid (by have := HE.out; subst this; exact synP_no hkl (.inl hx))
              have HLP := Lib.hid hlp
              have KF : Hid (∀ w', Ext wr w' → w'.cell? ⟨g0, 0, none⟩ = some ve ∧ w'.cell? ⟨g5, 0, none⟩ = some (.int .i64 (e).ag) ∧ w'.cell? ⟨g5, 1, none⟩ = some (.int .i64 (e).kind) ∧ w'.cell? ⟨g5, 2, none⟩ = some (.bool S1) ∧ w'.cell? ⟨g5, 3, none⟩ = some (.bool (e).nt) ∧ w'.cell? ⟨g5, 4, none⟩ = some (.int .i64 (e).blk) ∧ w'.cell? ⟨g5, 5, none⟩ = some (.int .i64 (e).at_) ∧ w'.cell? ⟨g5, 6, none⟩ = some (.int .i64 (e).size) ∧ w'.cell? ⟨g5, 7, none⟩ = some v.r ∧ w'.cell? ⟨g5, 8, none⟩ = some v.w ∧ w'.cell? ⟨g5, 9, none⟩ = some v.f) := Lib.hid fun w' x => by
                have d := (hbx.ext x).cells
                rw [← hS1] at d
                exact ⟨(KE.out _ (X1.out.trans (hlp.x.trans x))).2.cells.1, d⟩
              clear hx hlp hbx hS1 hlg hea
              go_upto_region 10 with fail
              refine wp_region_plan [(0, true), (1, true), (2, true), (3, true), (4, true), (5, true), (6, true), (7, true), (8, true), (9, true), (10, true), (11, true), (12, true), (13, true), (14, true), (15, true), (16, true), (17, true), (18, true), (19, true), (20, true), (21, false), (22, true)] (fun w' => w'.cell? ⟨g0, 0, none⟩ = some ve ∧ w'.cell? ⟨g5, 0, none⟩ = some (.int .i64 (e).ag) ∧ w'.cell? ⟨g5, 1, none⟩ = some (.int .i64 (e).kind) ∧ w'.cell? ⟨g5, 2, none⟩ = some (.bool S1) ∧ w'.cell? ⟨g5, 3, none⟩ = some (.bool (e).nt) ∧ w'.cell? ⟨g5, 4, none⟩ = some (.int .i64 (e).blk) ∧ w'.cell? ⟨g5, 5, none⟩ = some (.int .i64 (e).at_) ∧ w'.cell? ⟨g5, 6, none⟩ = some (.int .i64 (e).size) ∧ w'.cell? ⟨g5, 7, none⟩ = some v.r ∧ w'.cell? ⟨g5, 8, none⟩ = some v.w ∧ w'.cell? ⟨g5, 9, none⟩ = some v.f) (by kernel_rfl) (by kernel_rfl) (by kernel_rfl) (fun _ d _ _ _ h => by cases d <;> exact h) (KF.out _ (Mod.drew (Mod.refl _ _))) ?_
              simp only [planL, getO]
              iterate 3 (refine plan_take (v := ?_) (by rfl) (fun wS hS => ?_) ?_; rotate_left; (focus ((try dsimp only at hS); go_simp; (try with_reducible rfl); done)); (try simp only [Act.put, List.setIfInBounds_toArray, List.set_cons_zero, List.set_cons_succ]))
              iterate 2 (refine plan_skip (by rfl) ?_; (try simp only [Act.put, List.setIfInBounds_toArray, List.set_cons_zero, List.set_cons_succ]))
              iterate 2 (refine plan_take (v := ?_) (by rfl) (fun wS hS => ?_) ?_; rotate_left; (focus ((try dsimp only at hS); go_simp; (try with_reducible rfl); done)); (try simp only [Act.put, List.setIfInBounds_toArray, List.set_cons_zero, List.set_cons_succ]))
              iterate 6 (refine plan_skip (by rfl) ?_; (try simp only [Act.put, List.setIfInBounds_toArray, List.set_cons_zero, List.set_cons_succ]))
              iterate 2 (refine plan_take (v := ?_) (by rfl) (fun wS hS => ?_) ?_; rotate_left; (focus ((try dsimp only at hS); go_simp; (try with_reducible rfl); done)); (try simp only [Act.put, List.setIfInBounds_toArray, List.set_cons_zero, List.set_cons_succ]))
              iterate 6 (refine plan_skip (by rfl) ?_; (try simp only [Act.put, List.setIfInBounds_toArray, List.set_cons_zero, List.set_cons_succ]))
              (refine plan_skip (by rfl) ?_; (try simp only [Act.put, List.setIfInBounds_toArray, List.set_cons_zero, List.set_cons_succ]))
              (refine plan_take (v := ?_) (by rfl) (fun wS hS => ?_) ?_; rotate_left; (focus ((try dsimp only at hS); go_simp; (try with_reducible rfl); done)); (try simp only [Act.put, List.setIfInBounds_toArray, List.set_cons_zero, List.set_cons_succ]))
              refine plan_nil ?_
              go_wp2_with fail
              go_roundw
              case rel => exact ⟨k + 1, by omega, by go_num, (HLP.out.ext ((Mod.refl _ _).drew)).congr fun x y _ _ => HX.out x y, HB5.out.ext ((Mod.refl _ _).drew)⟩
              case measure => simp [intOf]; omega
            · rw [hx] at cF
              have hal : a < L.ev.length := by omega
              have i2 := HI.out a hal
              obtain ⟨y0, y1, y2, y3, y4, y5, y6, y7, y8, y9⟩ := hlg.cells hal
              have hxa := hlg.ev a hal
              obtain ⟨x, hxe⟩ : ∃ x, x = evn L.ev a := ⟨_, rfl⟩
              obtain ⟨u, hue⟩ : ∃ u, u = V a := ⟨_, rfl⟩
              obtain ⟨A2, hA2⟩ : ∃ A, A = at_ ve (a * 10) := ⟨_, rfl⟩
              rw [← hxe] at hxa
              rw [← hue] at hxa
              obtain ⟨S2, hS2⟩ : ∃ S, S = x.seq := ⟨_, rfl⟩
              obtain ⟨Q, hQ⟩ : ∃ Q, Q = evEq x e := ⟨_, rfl⟩
              have hSC : synC L a b = (S2 && S1 && Q) := by unfold synC; rw [hS1, hS2, hQ, ← hxe, ← HE.out]
              have HQ := Lib.hid hQ
              obtain ⟨j1, j2, j3, -⟩ := ev_facts hxa
              have KF : Hid (∀ w', Ext wr w' → w'.cell? ⟨g0, 0, none⟩ = some ve ∧ w'.cell? ⟨g5, 0, none⟩ = some (.int .i64 (e).ag) ∧ w'.cell? ⟨g5, 1, none⟩ = some (.int .i64 (e).kind) ∧ w'.cell? ⟨g5, 2, none⟩ = some (.bool S1) ∧ w'.cell? ⟨g5, 3, none⟩ = some (.bool (e).nt) ∧ w'.cell? ⟨g5, 4, none⟩ = some (.int .i64 (e).blk) ∧ w'.cell? ⟨g5, 5, none⟩ = some (.int .i64 (e).at_) ∧ w'.cell? ⟨g5, 6, none⟩ = some (.int .i64 (e).size) ∧ w'.cell? ⟨g5, 7, none⟩ = some v.r ∧ w'.cell? ⟨g5, 8, none⟩ = some v.w ∧ w'.cell? ⟨g5, 9, none⟩ = some v.f ∧ w'.cell? A2 = some (.int .i64 (x).ag) ∧ w'.cell? ⟨A2.block, A2.off + 1, none⟩ = some (.int .i64 (x).kind) ∧ w'.cell? ⟨A2.block, A2.off + 2, none⟩ = some (.bool S2) ∧ w'.cell? ⟨A2.block, A2.off + 3, none⟩ = some (.bool (x).nt) ∧ w'.cell? ⟨A2.block, A2.off + 4, none⟩ = some (.int .i64 (x).blk) ∧ w'.cell? ⟨A2.block, A2.off + 5, none⟩ = some (.int .i64 (x).at_) ∧ w'.cell? ⟨A2.block, A2.off + 6, none⟩ = some (.int .i64 (x).size) ∧ w'.cell? ⟨A2.block, A2.off + 7, none⟩ = some u.r ∧ w'.cell? ⟨A2.block, A2.off + 8, none⟩ = some u.w ∧ w'.cell? ⟨A2.block, A2.off + 9, none⟩ = some u.f) := Lib.hid fun w' z => by
                have d := (hbx.ext z).cells
                rw [← hS1] at d
                have y := ((KE.out _ (X1.out.trans (hlp.x.trans z))).1).cells hal
                rw [← hxe, ← hue, ← hS2, ← hA2] at y
                obtain ⟨d0, d1, d2, d3, d4, d5, d6, d7, d8, d9⟩ := d
                exact ⟨(KE.out _ (X1.out.trans (hlp.x.trans z))).2.cells.1, d0, d1, d2, d3, d4, d5, d6, d7, d8, d9, y⟩
              have KV : Hid (∀ w', Ext wr w' → EvAt w' ⟨x.ag, x.kind, S2, x.nt, x.blk, x.at_, x.size, x.rd, x.wr, x.fr⟩ u ∧ EvAt w' ⟨e.ag, e.kind, S1, e.nt, e.blk, e.at_, e.size, e.rd, e.wr, e.fr⟩ v) := Lib.hid fun w' z => by
                rw [hS1, hS2]; exact ⟨hxa.ext z, hea.ext z⟩
              have HXN : Hid ((S2 && S1 && Q) = false → ∀ x y, synP L b k x y = synP L b (k + 1) x y) := Lib.hid (by rw [← hSC]; intro hn; have := HE.out; subst this; exact synP_no hkl (.inr ⟨a, hx, hn⟩))
              have HXP : Hid ((S2 && S1 && Q) = true → ∀ x y, putR (synP L b k) a b x y = synP L b (k + 1) x y) := Lib.hid (by rw [← hSC]; intro hn; have := HE.out; subst this; exact synP_put hkl hx hn)
              have HLP := Lib.hid hlp
              rw [← hA2] at i2
              clear hx hlp hbx hS1 hS2 hSC hQ hxe hue hA2 hlg hea hxa y0 y1 y2 y3 y4 y5 y6 y7 y8 y9
              go_upto_region 10 with fail
              cases S1 with
              | false =>
                refine wp_region_plan [(0, true), (1, true), (2, true), (3, true), (4, true), (5, true), (6, true), (7, true), (8, true), (9, true), (10, true), (11, true), (12, true), (13, true), (14, true), (15, true), (16, true), (17, true), (18, true), (19, true), (20, true), (21, false), (22, true)] (fun w' => w'.cell? ⟨g0, 0, none⟩ = some ve ∧ w'.cell? ⟨g5, 0, none⟩ = some (.int .i64 (e).ag) ∧ w'.cell? ⟨g5, 1, none⟩ = some (.int .i64 (e).kind) ∧ w'.cell? ⟨g5, 2, none⟩ = some (.bool false) ∧ w'.cell? ⟨g5, 3, none⟩ = some (.bool (e).nt) ∧ w'.cell? ⟨g5, 4, none⟩ = some (.int .i64 (e).blk) ∧ w'.cell? ⟨g5, 5, none⟩ = some (.int .i64 (e).at_) ∧ w'.cell? ⟨g5, 6, none⟩ = some (.int .i64 (e).size) ∧ w'.cell? ⟨g5, 7, none⟩ = some v.r ∧ w'.cell? ⟨g5, 8, none⟩ = some v.w ∧ w'.cell? ⟨g5, 9, none⟩ = some v.f ∧ w'.cell? A2 = some (.int .i64 (x).ag) ∧ w'.cell? ⟨A2.block, A2.off + 1, none⟩ = some (.int .i64 (x).kind) ∧ w'.cell? ⟨A2.block, A2.off + 2, none⟩ = some (.bool S2) ∧ w'.cell? ⟨A2.block, A2.off + 3, none⟩ = some (.bool (x).nt) ∧ w'.cell? ⟨A2.block, A2.off + 4, none⟩ = some (.int .i64 (x).blk) ∧ w'.cell? ⟨A2.block, A2.off + 5, none⟩ = some (.int .i64 (x).at_) ∧ w'.cell? ⟨A2.block, A2.off + 6, none⟩ = some (.int .i64 (x).size) ∧ w'.cell? ⟨A2.block, A2.off + 7, none⟩ = some u.r ∧ w'.cell? ⟨A2.block, A2.off + 8, none⟩ = some u.w ∧ w'.cell? ⟨A2.block, A2.off + 9, none⟩ = some u.f) (by kernel_rfl) (by kernel_rfl) (by kernel_rfl) (fun _ d _ _ _ h => by cases d <;> exact h) (KF.out _ (Mod.drew (Mod.refl _ _))) ?_
                simp only [planL, getO]
                iterate 7 (refine plan_take (v := ?_) (by rfl) (fun wS hS => ?_) ?_; rotate_left; (focus ((try dsimp only at hS); go_simp; (try with_reducible rfl); done)); (try simp only [Act.put, List.setIfInBounds_toArray, List.set_cons_zero, List.set_cons_succ]))
                iterate 6 (refine plan_skip (by rfl) ?_; (try simp only [Act.put, List.setIfInBounds_toArray, List.set_cons_zero, List.set_cons_succ]))
                iterate 2 (refine plan_take (v := ?_) (by rfl) (fun wS hS => ?_) ?_; rotate_left; (focus ((try dsimp only at hS); go_simp; (try with_reducible rfl); done)); (try simp only [Act.put, List.setIfInBounds_toArray, List.set_cons_zero, List.set_cons_succ]))
                iterate 6 (refine plan_skip (by rfl) ?_; (try simp only [Act.put, List.setIfInBounds_toArray, List.set_cons_zero, List.set_cons_succ]))
                (refine plan_skip (by rfl) ?_; (try simp only [Act.put, List.setIfInBounds_toArray, List.set_cons_zero, List.set_cons_succ]))
                (refine plan_take (v := ?_) (by rfl) (fun wS hS => ?_) ?_; rotate_left; (focus ((try dsimp only at hS); go_simp; (try with_reducible rfl); done)); (try simp only [Act.put, List.setIfInBounds_toArray, List.set_cons_zero, List.set_cons_succ]))
                refine plan_nil ?_
                go_wp2_with fail
                go_roundw
                case rel => exact ⟨k + 1, by omega, by go_num, (HLP.out.ext ((Mod.refl _ _).drew)).congr fun x y _ _ => HXN.out (by cases S2 <;> rfl) x y, HB5.out.ext ((Mod.refl _ _).drew)⟩
                case measure => simp [intOf]; omega
              | true =>
                cases S2 with
                | false =>
                  refine wp_region_plan [(0, true), (1, true), (2, true), (3, true), (4, true), (5, true), (6, true), (7, true), (8, true), (9, true), (10, true), (11, true), (12, true), (13, true), (14, true), (15, true), (16, true), (17, true), (18, true), (19, true), (20, true), (21, false), (22, true)] (fun w' => w'.cell? ⟨g0, 0, none⟩ = some ve ∧ w'.cell? ⟨g5, 0, none⟩ = some (.int .i64 (e).ag) ∧ w'.cell? ⟨g5, 1, none⟩ = some (.int .i64 (e).kind) ∧ w'.cell? ⟨g5, 2, none⟩ = some (.bool true) ∧ w'.cell? ⟨g5, 3, none⟩ = some (.bool (e).nt) ∧ w'.cell? ⟨g5, 4, none⟩ = some (.int .i64 (e).blk) ∧ w'.cell? ⟨g5, 5, none⟩ = some (.int .i64 (e).at_) ∧ w'.cell? ⟨g5, 6, none⟩ = some (.int .i64 (e).size) ∧ w'.cell? ⟨g5, 7, none⟩ = some v.r ∧ w'.cell? ⟨g5, 8, none⟩ = some v.w ∧ w'.cell? ⟨g5, 9, none⟩ = some v.f ∧ w'.cell? A2 = some (.int .i64 (x).ag) ∧ w'.cell? ⟨A2.block, A2.off + 1, none⟩ = some (.int .i64 (x).kind) ∧ w'.cell? ⟨A2.block, A2.off + 2, none⟩ = some (.bool false) ∧ w'.cell? ⟨A2.block, A2.off + 3, none⟩ = some (.bool (x).nt) ∧ w'.cell? ⟨A2.block, A2.off + 4, none⟩ = some (.int .i64 (x).blk) ∧ w'.cell? ⟨A2.block, A2.off + 5, none⟩ = some (.int .i64 (x).at_) ∧ w'.cell? ⟨A2.block, A2.off + 6, none⟩ = some (.int .i64 (x).size) ∧ w'.cell? ⟨A2.block, A2.off + 7, none⟩ = some u.r ∧ w'.cell? ⟨A2.block, A2.off + 8, none⟩ = some u.w ∧ w'.cell? ⟨A2.block, A2.off + 9, none⟩ = some u.f) (by kernel_rfl) (by kernel_rfl) (by kernel_rfl) (fun _ d _ _ _ h => by cases d <;> exact h) (KF.out _ (Mod.drew (Mod.refl _ _))) ?_
                  simp only [planL, getO]
                  iterate 15 (refine plan_take (v := ?_) (by rfl) (fun wS hS => ?_) ?_; rotate_left; (focus ((try dsimp only at hS); go_simp; (try with_reducible rfl); done)); (try simp only [Act.put, List.setIfInBounds_toArray, List.set_cons_zero, List.set_cons_succ]))
                  iterate 6 (refine plan_skip (by rfl) ?_; (try simp only [Act.put, List.setIfInBounds_toArray, List.set_cons_zero, List.set_cons_succ]))
                  (refine plan_skip (by rfl) ?_; (try simp only [Act.put, List.setIfInBounds_toArray, List.set_cons_zero, List.set_cons_succ]))
                  (refine plan_take (v := ?_) (by rfl) (fun wS hS => ?_) ?_; rotate_left; (focus ((try dsimp only at hS); go_simp; (try with_reducible rfl); done)); (try simp only [Act.put, List.setIfInBounds_toArray, List.set_cons_zero, List.set_cons_succ]))
                  refine plan_nil ?_
                  go_wp2_with fail
                  go_roundw
                  case rel => exact ⟨k + 1, by omega, by go_num, (HLP.out.ext ((Mod.refl _ _).drew)).congr fun x y _ _ => HXN.out rfl x y, HB5.out.ext ((Mod.refl _ _).drew)⟩
                  case measure => simp [intOf]; omega
                | true =>
                  refine wp_region_plan [(0, true), (1, true), (2, true), (3, true), (4, true), (5, true), (6, true), (7, true), (8, true), (9, true), (10, true), (11, true), (12, true), (13, true), (14, true), (15, true), (16, true), (17, true), (18, true), (19, true), (20, true), (21, false), (22, true)] (fun w' => w'.cell? ⟨g0, 0, none⟩ = some ve ∧ w'.cell? ⟨g5, 0, none⟩ = some (.int .i64 (e).ag) ∧ w'.cell? ⟨g5, 1, none⟩ = some (.int .i64 (e).kind) ∧ w'.cell? ⟨g5, 2, none⟩ = some (.bool true) ∧ w'.cell? ⟨g5, 3, none⟩ = some (.bool (e).nt) ∧ w'.cell? ⟨g5, 4, none⟩ = some (.int .i64 (e).blk) ∧ w'.cell? ⟨g5, 5, none⟩ = some (.int .i64 (e).at_) ∧ w'.cell? ⟨g5, 6, none⟩ = some (.int .i64 (e).size) ∧ w'.cell? ⟨g5, 7, none⟩ = some v.r ∧ w'.cell? ⟨g5, 8, none⟩ = some v.w ∧ w'.cell? ⟨g5, 9, none⟩ = some v.f ∧ w'.cell? A2 = some (.int .i64 (x).ag) ∧ w'.cell? ⟨A2.block, A2.off + 1, none⟩ = some (.int .i64 (x).kind) ∧ w'.cell? ⟨A2.block, A2.off + 2, none⟩ = some (.bool true) ∧ w'.cell? ⟨A2.block, A2.off + 3, none⟩ = some (.bool (x).nt) ∧ w'.cell? ⟨A2.block, A2.off + 4, none⟩ = some (.int .i64 (x).blk) ∧ w'.cell? ⟨A2.block, A2.off + 5, none⟩ = some (.int .i64 (x).at_) ∧ w'.cell? ⟨A2.block, A2.off + 6, none⟩ = some (.int .i64 (x).size) ∧ w'.cell? ⟨A2.block, A2.off + 7, none⟩ = some u.r ∧ w'.cell? ⟨A2.block, A2.off + 8, none⟩ = some u.w ∧ w'.cell? ⟨A2.block, A2.off + 9, none⟩ = some u.f) (by kernel_rfl) (by kernel_rfl) (by kernel_rfl) (fun _ d _ _ _ h => by cases d <;> exact h) (KF.out _ (Mod.drew (Mod.refl _ _))) ?_
                  simp only [planL, getO]
                  iterate 21 (refine plan_take (v := ?_) (by rfl) (fun wS hS => ?_) ?_; rotate_left; (focus ((try dsimp only at hS); go_simp; (try with_reducible rfl); done)); (try simp only [Act.put, List.setIfInBounds_toArray, List.set_cons_zero, List.set_cons_succ]))
                  refine plan_call (fun K hK => ?_)
                  go_simp
                  go_at_call 30; refine (equal_any _ ⟨x.ag, x.kind, true, x.nt, x.blk, x.at_, x.size, x.rd, x.wr, x.fr⟩ ⟨e.ag, e.kind, true, e.nt, e.blk, e.at_, e.size, e.rd, e.wr, e.fr⟩ u v (KV.out _ (Mod.drew (Mod.refl _ _))).1 (KV.out _ (Mod.drew (Mod.refl _ _))).2).mono ?_; rintro en w6 ⟨rfl, y6⟩; have E6 : Ext wr w6 := Mod.trans (Mod.drew (Mod.refl _ _)) y6
                  refine hK.out _ _ (KF.out _ E6) ?_
                  clear hK K
                  (try simp only [Act.put, List.setIfInBounds_toArray, List.set_cons_zero, List.set_cons_succ])
                  (refine plan_take (v := ?_) (by rfl) (fun wS hS => ?_) ?_; rotate_left; (focus ((try dsimp only at hS); go_simp; (try with_reducible rfl); done)); (try simp only [Act.put, List.setIfInBounds_toArray, List.set_cons_zero, List.set_cons_succ]))
                  refine plan_nil ?_
                  have hq : evEq ⟨x.ag, x.kind, true, x.nt, x.blk, x.at_, x.size, x.rd, x.wr, x.fr⟩ ⟨e.ag, e.kind, true, e.nt, e.blk, e.at_, e.size, e.rd, e.wr, e.fr⟩ = Q := HQ.out.symm
                  rw [hq]
                  clear hq
                  cases Q with
                  | false =>
                    go_wp2_with fail
                    go_roundw
                    case rel => exact ⟨k + 1, by omega, by go_num, (HLP.out.ext E6).congr fun x y _ _ => HXN.out rfl x y, HB5.out.ext E6⟩
                    case measure => simp [intOf]; omega
                  | true =>
                    go_wp2_with fail
                    refine (rput_any w1 _ g rv r _ _ (HLP.out.ext E6) a b hal hlt).mono ?_
                    rintro en w8 ⟨rfl, hlp8, m8⟩
                    have HB8 : Hid (EvBox w8 g5 e v) := Lib.hid ⟨m8.blk (HB5.out.ext E6).b ((HLP.out.ext E6).apart (HB5.out.ext E6).b (by decide) (by decide) (by decide))⟩
                    have HLP8 := Lib.hid hlp8
                    clear hlp8 m8
                    go_wp2_with fail
                    go_roundw
                    case rel => exact ⟨k + 1, by omega, by go_num, HLP8.out.congr fun x y _ _ => HXP.out rfl x y, HB8.out⟩
                    case measure => simp [intOf]; omega
          · have hkl' : ¬ (k : Int) < (e.fr.length : Int) := by omega
            have HK : Hid (k = e.fr.length) := Lib.hid (by omega)
            have HLP := Lib.hid hlp
            clear hlp hbx
            go_wp2_with fail
            go_roundw
            case rel => exact ⟨b + 1, by omega, by go_num, HLP.out.congr fun x y _ _ => synP_all (by rw [← HW5.out.2.2.2.1]; exact HK.out) x y⟩
            case measure => simp [intOf]; omega
      · have hlt' : ¬ (b : Int) < (L.ev.length : Int) := by omega
        have HK : Hid (b = L.ev.length) := Lib.hid (by omega)
        have R7 : RelLoop w1 g rv r L.ev.length (pairP L 0) wr := hlp.congr fun x y _ hy => by have := HK.out; rw [pairP_zero]; simp; intro _; omega
        obtain ⟨c0, c1⟩ := (KE.out _ (X1.out.trans hlp.x)).2.cells
        clear hlp
        go_wp2_with fail
        clear c0 c1
        go_loopw [65] (fun s wr => ∃ i : Nat, i ≤ L.pr.length ∧ s = .int .i64 (i : Int) ∧ RelLoop w1 g rv r L.ev.length (pairP L i) wr) (fun s _ => L.pr.length - (intOf s).toNat)
        case atStart => exact ⟨0, Nat.zero_le _, rfl, R7⟩
        case round =>
          obtain ⟨i, hi, rfl, hlp⟩ := hrel
          clear R7
          by_cases hil : i < L.pr.length
          · have hil' : (i : Int) < (L.pr.length : Int) := by omega
            have i0 := HJ.out i hil
            obtain ⟨c0, c1⟩ := ((KE.out _ (X1.out.trans hlp.x)).1).pcells hil
            obtain ⟨pa, pb, hpe, hp1, hp2⟩ := may_pair HM.out hil
            rw [hpe] at c0 c1
            obtain ⟨A, hA⟩ : ∃ A, A = at_ vp (i * 2) := ⟨_, rfl⟩
            rw [← hA] at i0 c0 c1
            have HPE := Lib.hid hpe
            have HPN := Lib.hid (And.intro hp1 hp2)
            have HLP := Lib.hid hlp
            clear hlp hA hpe hp1 hp2
            go_wp2_with fail
            refine (rput_any w1 _ g rv r _ _ (HLP.out.ext ((Mod.refl _ _).alloc _)) pa pb (by have := HPN.out; omega) HPN.out.2).mono ?_
            rintro en w8 ⟨rfl, hlp8, -⟩
            have HLP8 := Lib.hid hlp8
            clear hlp8
            go_wp2_with fail
            go_roundw
            case rel => exact ⟨i + 1, by omega, by go_num, HLP8.out.congr fun x y _ _ => pairP_put hil HPE.out x y⟩
            case measure => simp [intOf]; omega
          · have hil' : ¬ (i : Int) < (L.pr.length : Int) := by omega
            have HK2 : Hid (i = L.pr.length) := Lib.hid (by omega)
            have HLP := Lib.hid hlp
            clear hlp
            go_wp2_with fail
            go_ret
            have e0 : relN L = L.ev.length := by unfold relN; rw [if_pos HM.out]
            rw [e0]
            exact ((HLP.out.congr fun x y _ _ => pairP_all HK2.out x y).back (HW.out.2.2.trans X1.out)).post
end Go.Proofs.Ythmkcgiiakinmaa
