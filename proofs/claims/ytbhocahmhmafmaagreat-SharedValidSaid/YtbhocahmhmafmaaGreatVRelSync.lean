/-
  The contract of rel.Sync. No condition. The contract of rel.Before. No condition.
-/
import Derived.Test.YtbhocahmhmafmaaGreatVRelAt
namespace Go.Ren
set_option linter.unusedVariables false
def synC (L : Lg) (a b : Nat) : Bool := (evn L.ev a).seq && (evn L.ev b).seq && evEq (evn L.ev a) (evn L.ev b)
theorem synE_C (L : Lg) (a b : Nat) : synE L a b = (fromB L a b && synC L a b) := by unfold synE synC; simp only [Bool.and_assoc]
def synP (L : Lg) (b k : Nat) (x y : Nat) : Bool := (decide (y < b) && synE L x y) || (decide (y = b) && ((evn L.ev b).fr.take k).contains (x : Int) && synC L x b)
theorem synP_zero (L : Lg) (b x y : Nat) : synP L b 0 x y = (decide (y < b) && synE L x y) := by simp [synP]
theorem synP_all {L : Lg} {b k : Nat} (hk : k = (evn L.ev b).fr.length) (x y : Nat) : synP L b k x y = (decide (y < b + 1) && synE L x y) := by
 subst hk
 unfold synP
 rw [List.take_length]
 by_cases e : y = b
 · subst e; simp [synE_C, fromB]
 · rw [Bool.eq_iff_iff]; simp [e]; intro _; omega
theorem synP_no {L : Lg} {b k : Nat} (hk : k < (evn L.ev b).fr.length) (h : (evn L.ev b).fr[k] = -1 ∨ ∃ a : Nat, (evn L.ev b).fr[k] = (a : Int) ∧ synC L a b = false) (x y : Nat) : synP L b k x y = synP L b (k + 1) x y := by
 unfold synP
 rw [List.take_succ_eq_append_getElem hk]
 congr 1
 rw [Bool.eq_iff_iff]
 simp only [Bool.and_eq_true, List.contains_iff_mem, List.mem_append, List.mem_singleton]
 constructor
 · rintro ⟨⟨h1, h2⟩, h3⟩; exact ⟨⟨h1, .inl h2⟩, h3⟩
 · rintro ⟨⟨h1, h2 | h2⟩, h3⟩
   · exact ⟨⟨h1, h2⟩, h3⟩
   · rcases h with h | ⟨a, h, h4⟩
     · omega
     · have : x = a := by omega
       subst this; rw [h4] at h3; cases h3
theorem synP_put {L : Lg} {b k a : Nat} (hk : k < (evn L.ev b).fr.length) (h : (evn L.ev b).fr[k] = (a : Int)) (hs : synC L a b = true) (x y : Nat) : putR (synP L b k) a b x y = synP L b (k + 1) x y := by
 unfold synP putR
 rw [List.take_succ_eq_append_getElem hk, h, Bool.eq_iff_iff]
 simp only [Bool.or_eq_true, Bool.and_eq_true, decide_eq_true_eq, List.contains_iff_mem, List.mem_append, List.mem_singleton, Int.ofNat_inj]
 constructor
 · rintro ((h1 | ⟨⟨h1, h2⟩, h3⟩) | ⟨h1, h2⟩)
   · exact .inl h1
   · exact .inr ⟨⟨h1, .inl h2⟩, h3⟩
   · subst h1; exact .inr ⟨⟨h2, .inr rfl⟩, hs⟩
 · rintro (h1 | ⟨⟨h1, h2 | h2⟩, h3⟩)
   · exact .inl (.inl h1)
   · exact .inl (.inr ⟨⟨h1, h2⟩, h3⟩)
   · exact .inr ⟨h2, h1⟩
def pairP (L : Lg) (i x y : Nat) : Bool := synE L x y || (L.pr.take i).contains ((x : Int), (y : Int))
theorem pairP_zero (L : Lg) (x y : Nat) : pairP L 0 x y = synE L x y := by simp [pairP]
theorem pairP_all {L : Lg} {i : Nat} (hi : i = L.pr.length) (x y : Nat) : pairP L i x y = synB L x y := by subst hi; unfold pairP synB; rw [List.take_length]
theorem pairP_put {L : Lg} {i a b : Nat} (hi : i < L.pr.length) (h : prn L.pr i = ((a : Int), (b : Int))) (x y : Nat) : putR (pairP L i) a b x y = pairP L (i + 1) x y := by
 unfold pairP putR
 rw [prn_eq hi] at h
 rw [List.take_succ_eq_append_getElem hi, h, Bool.eq_iff_iff]
 simp only [Bool.or_eq_true, Bool.and_eq_true, decide_eq_true_eq, List.contains_iff_mem, List.mem_append, List.mem_singleton, Prod.mk.injEq, Int.ofNat_inj]
 constructor
 · rintro ((h1 | h1) | h1)
   · exact .inl h1
   · exact .inr (.inl h1)
   · exact .inr (.inr h1)
 · rintro (h1 | h1 | h1)
   · exact .inl (.inl h1)
   · exact .inl (.inr h1)
   · exact .inr h1
end Go.Ren
namespace Go.Proofs.YtbhocahmhmafmaaGreat
open Go.Ren Go.RowKit
set_option linter.unusedVariables false
set_option maxRecDepth 100000 in
set_option maxHeartbeats 1600000 in
theorem rsync_any (w : World) (ve vp : Value) (V : Nat → Vs) (L : Lg) (h : LogIn w ve vp V L) (hl : L.ev.length ≤ 64) :
 Calls Tryz.prog 125 #[.agg #[ve, vp]] w (RelPost (relN L) (synB L) w) := by
 have q1 := Sl.cells_eq h.row
 have q2 := Sl.cells_eq h.prow
 have s1 := Sl.run_st (P := Tryz.prog) h.row
 have s2 := Sl.run_st (P := Tryz.prog) h.prow
 have l1 := h.row.run_len (P := Tryz.prog) IEv.und 3
 have l2 := h.prow.run_len (P := Tryz.prog) IP.und 3
 have HI := Lib.hid (h.row.run_idx (P := Tryz.prog) IEv.und IEv.size .i64)
 have HJ := Lib.hid (h.prow.run_idx (P := Tryz.prog) IP.und IP.size .i64)
 obtain ⟨w0, hw0⟩ : ∃ w0, w0 = w.alloc (.cells #[ve, vp] 48) := ⟨_, rfl⟩
 obtain ⟨g0, hg0⟩ : ∃ g, g = w.heap.size := ⟨_, rfl⟩
 have x0 : Ext w w0 := by rw [hw0]; exact (Mod.refl _ _).alloc _
 have b0 : LogBox w0 g0 ve vp := ⟨by rw [hw0, hg0]; exact heap_alloc_new _ _⟩
 have HW := Lib.hid (And.intro hw0 (And.intro hg0 x0))
 have KE : Hid (∀ w', Ext w0 w' → LogIn w' ve vp V L ∧ LogBox w' g0 ve vp) := Lib.hid fun w' x => ⟨h.ext (x0.trans x), b0.ext x⟩
 have HN := Lib.hid hl
 obtain ⟨c0, c1⟩ := b0.cells
 clear hw0 hg0 x0 b0 h hl
 go_enter Tryz.func125, Tryz.ntmps125
 go_upto_region 1 with fail
 rw [← HW.out.1, ← HW.out.2.1]
 clear s1 s2
 go_wp2_with fail
 refine (may_any _ ve vp V L (KE.out _ (Mod.refl _ _)).1).mono ?_
 rintro e w1 ⟨rfl, x1⟩
 clear c0 c1
 cases hm : mayL L with
 | false =>
  have HM := Lib.hid hm
  clear hm
  go_wp2_with fail
  refine (rempty_any _ 0 (by decide)).mono ?_
  rintro e w2 h2
  have H2 := Lib.hid h2
  obtain ⟨g, rv, r, M, rfl, -⟩ := h2
  go_wp2_with fail
  go_ret
  exact H2.out.none HM.out (HW.out.2.2.trans x1)
 | true =>
  have HM := Lib.hid hm
  clear hm
  obtain ⟨c0, c1⟩ := (KE.out _ x1).2.cells
  go_wp2_with fail
  refine (rempty_any _ L.ev.length HN.out).mono ?_
  rintro e w2 h2
  obtain ⟨g, rv, r, rfl, hlp⟩ := h2.loop
  clear h2 c0 c1
  obtain ⟨c0, c1⟩ := (KE.out _ (x1.trans hlp.x)).2.cells
  have R0 : RelLoop w1 g rv r L.ev.length (fun x y => decide (y < 0) && synE L x y) w2 := hlp.congr fun a b _ _ => by simp
  have X1 := Lib.hid x1
  have hle : (L.ev.length : Int) ≤ 64 := by have := HN.out; omega
  have hle2 : (L.pr.length : Int) ≤ 1000 := by have := (mayL_iff.1 HM.out).1.2; omega
  clear hlp x1
  go_wp2_with fail
  clear c0 c1
  go_loopw [21] (fun s wr => ∃ b : Nat, b ≤ L.ev.length ∧ s = .int .i64 (b : Int) ∧ RelLoop w1 g rv r L.ev.length (fun x y => decide (y < b) && synE L x y) wr) (fun s _ => L.ev.length - (intOf s).toNat)
  case atStart => exact ⟨0, Nat.zero_le _, rfl, R0⟩
  case round =>
   obtain ⟨b, hb, rfl, hlp⟩ := hrel
   clear R0
   by_cases hlt : b < L.ev.length
   · have hlt' : (b : Int) < (L.ev.length : Int) := by omega
     have i0 := HI.out b hlt
     have hlg := (KE.out _ (X1.out.trans hlp.x)).1
     obtain ⟨c0, c1, c2, c3, c4, c5, c6, c7, c8, c9⟩ := hlg.cells hlt
     have hea := hlg.ev b hlt
     have HF := Lib.hid (fun k hk => may_from HM.out hlt (k := k) hk)
     have HL8 := may_small HM.out hlt
     obtain ⟨e, he⟩ : ∃ e, e = evn L.ev b := ⟨_, rfl⟩
     obtain ⟨v, hv⟩ : ∃ v, v = V b := ⟨_, rfl⟩
     obtain ⟨A, hA⟩ : ∃ A, A = at_ ve (b * 10) := ⟨_, rfl⟩
     rw [← hA] at i0 c0 c1 c2 c3 c4 c5 c6 c7 c8 c9
     rw [← he] at c0 c1 c2 c3 c4 c5 c6 hea HF HL8
     rw [← hv] at c7 c8 c9 hea
     obtain ⟨k1, k2, k3, t1, t2, t3⟩ := ev_facts hea
     obtain ⟨w5, hw5⟩ : ∃ w5, w5 = wr.alloc (.cells (evArr e v) 70) := ⟨_, rfl⟩
     obtain ⟨g5, hg5⟩ : ∃ g, g = wr.heap.size := ⟨_, rfl⟩
     have x5 : Ext wr w5 := by rw [hw5]; exact (Mod.refl _ _).alloc _
     have b5 : EvBox w5 g5 e v := by rw [hw5, hg5]; exact EvBox.of wr e v
     have l5 := hea.fr.sl.run_len (P := Tryz.prog) II.und 3
     have J5 := Lib.hid (hea.fr.sl.run_idx (P := Tryz.prog) II.und II.size .i64)
     have R5 : RelLoop w1 g rv r L.ev.length (synP L b 0) w5 := (hlp.ext x5).congr fun x y _ _ => (synP_zero L b x y).symm
     have HW5 := Lib.hid (And.intro hw5 (And.intro hg5 (And.intro hea (And.intro he (And.intro hv b5)))))
     have d9 := b5.cells.2.2.2.2.2.2.2.2.2
     clear hlg hea he hv hA hw5 hg5 x5 b5 hlp
     go_upto_region 7 with fail
     rw [← HW5.out.1, ← HW5.out.2.1]
     clear c0 c1 c2 c3 c4 c5 c6 c7 c8 c9 t1 t2 t3 i0
     go_wp2_with fail
     clear d9
     go_loopw [29] (fun s wr => ∃ k : Nat, k ≤ e.fr.length ∧ s = .int .i64 (k : Int) ∧ RelLoop w1 g rv r L.ev.length (synP L b k) wr ∧ EvBox wr g5 e v) (fun s _ => e.fr.length - (intOf s).toNat)
     case atStart => exact ⟨0, Nat.zero_le _, rfl, R5, HW5.out.2.2.2.2.2⟩
     case round =>
      obtain ⟨k, hk, rfl, hlp, hbx⟩ := hrel
      clear R5
      by_cases hkl : k < e.fr.length
      · have hkl' : (k : Int) < (e.fr.length : Int) := by omega
        have j0 := J5.out k hkl
        simp only [Nat.mul_one] at j0
        have hlg := (KE.out _ (X1.out.trans hlp.x)).1
        have hea : EvAt wr e v := by have := hlg.ev b hlt; rw [← HW5.out.2.2.2.1, ← HW5.out.2.2.2.2.1] at this; exact this
        have cF := IntsAt.cell (l := e.fr) (v := v.f) (w := wr) hea.fr hkl
        have HE : Hid (e = evn L.ev b) := Lib.hid HW5.out.2.2.2.1
        obtain ⟨S1, hS1⟩ : ∃ S, S = e.seq := ⟨_, rfl⟩
        have HS1 := Lib.hid hS1
        have HB5 := Lib.hid hbx
        rcases HF.out k hkl with hx | ⟨a, hx, hab⟩
        · rw [hx] at cF
          have HX : Hid (∀ x y, synP L b k x y = synP L b (k + 1) x y) := Lib.hid (by have := HE.out; subst this; exact synP_no hkl (.inl hx))
          have HLP := Lib.hid hlp
          have KF : Hid (∀ w', Ext wr w' → w'.cell? ⟨g0, 0, none⟩ = some ve ∧ w'.cell? ⟨g5, 0, none⟩ = some (.int .i64 (e).ag) ∧ w'.cell? ⟨g5, 1, none⟩ = some (.int .i64 (e).kind) ∧ w'.cell? ⟨g5, 2, none⟩ = some (.bool S1) ∧ w'.cell? ⟨g5, 3, none⟩ = some (.bool (e).nt) ∧ w'.cell? ⟨g5, 4, none⟩ = some (.int .i64 (e).blk) ∧ w'.cell? ⟨g5, 5, none⟩ = some (.int .i64 (e).at_) ∧ w'.cell? ⟨g5, 6, none⟩ = some (.int .i64 (e).size) ∧ w'.cell? ⟨g5, 7, none⟩ = some v.r ∧ w'.cell? ⟨g5, 8, none⟩ = some v.w ∧ w'.cell? ⟨g5, 9, none⟩ = some v.f) := Lib.hid fun w' x => by
           have d := (hbx.ext x).cells
           rw [← hS1] at d
           exact ⟨(KE.out _ (X1.out.trans (hlp.x.trans x))).2.cells.1, d⟩
          clear hx hlp hbx hS1 hlg hea
          go_upto_region 10 with fail
          refine wp_region_plan [(0, true), (1, true), (2, true), (3, true), (4, true), (5, true), (6, true), (7, true), (8, true), (9, true), (10, true), (11, true), (12, true), (13, true), (14, true), (15, true), (16, true), (17, true), (18, true), (19, true), (20, true), (21, false), (22, true)] (fun w' => w'.cell? ⟨g0, 0, none⟩ = some ve ∧ w'.cell? ⟨g5, 0, none⟩ = some (.int .i64 (e).ag) ∧ w'.cell? ⟨g5, 1, none⟩ = some (.int .i64 (e).kind) ∧ w'.cell? ⟨g5, 2, none⟩ = some (.bool S1) ∧ w'.cell? ⟨g5, 3, none⟩ = some (.bool (e).nt) ∧ w'.cell? ⟨g5, 4, none⟩ = some (.int .i64 (e).blk) ∧ w'.cell? ⟨g5, 5, none⟩ = some (.int .i64 (e).at_) ∧ w'.cell? ⟨g5, 6, none⟩ = some (.int .i64 (e).size) ∧ w'.cell? ⟨g5, 7, none⟩ = some v.r ∧ w'.cell? ⟨g5, 8, none⟩ = some v.w ∧ w'.cell? ⟨g5, 9, none⟩ = some v.f) (by kernel_rfl) (by kernel_rfl) (by kernel_rfl) (fun _ d _ _ _ h => by cases d <;> exact h) (KF.out _ (Mod.drew (Mod.refl _ _))) ?_
          simp only [planL, getO]
          iterate 3 (refine plan_take (v := ?_) (by rfl) (fun wS hS => ?_) ?_; rotate_left; (focus ((try dsimp only at hS); go_simp; (try with_reducible rfl); done)); (try simp only [Act.put, List.setIfInBounds_toArray, List.set_cons_zero, List.set_cons_succ]))
          iterate 2 (refine plan_skip (by rfl) ?_; (try simp only [Act.put, List.setIfInBounds_toArray, List.set_cons_zero, List.set_cons_succ]))
          iterate 2 (refine plan_take (v := ?_) (by rfl) (fun wS hS => ?_) ?_; rotate_left; (focus ((try dsimp only at hS); go_simp; (try with_reducible rfl); done)); (try simp only [Act.put, List.setIfInBounds_toArray, List.set_cons_zero, List.set_cons_succ]))
          iterate 6 (refine plan_skip (by rfl) ?_; (try simp only [Act.put, List.setIfInBounds_toArray, List.set_cons_zero, List.set_cons_succ]))
          iterate 2 (refine plan_take (v := ?_) (by rfl) (fun wS hS => ?_) ?_; rotate_left; (focus ((try dsimp only at hS); go_simp; (try with_reducible rfl); done)); (try simp only [Act.put, List.setIfInBounds_toArray, List.set_cons_zero, List.set_cons_succ]))
          iterate 7 (refine plan_skip (by rfl) ?_; (try simp only [Act.put, List.setIfInBounds_toArray, List.set_cons_zero, List.set_cons_succ]))
          (refine plan_take (v := ?_) (by rfl) (fun wS hS => ?_) ?_; rotate_left; (focus ((try dsimp only at hS); go_simp; (try with_reducible rfl); done)); (try simp only [Act.put, List.setIfInBounds_toArray, List.set_cons_zero, List.set_cons_succ]))
          refine plan_nil ?_
          go_wp2_with fail
          go_roundw
          case rel => exact ⟨k + 1, by omega, by go_num, (HLP.out.ext ((Mod.refl _ _).drew)).congr fun x y _ _ => HX.out x y, HB5.out.ext ((Mod.refl _ _).drew)⟩
          case measure => simp [intOf]; omega
        · rw [hx] at cF
          have hal : a < L.ev.length := by omega
          have i2 := HI.out a hal
          obtain ⟨y0, y1, y2, y3, y4, y5, y6, y7, y8, y9⟩ := hlg.cells hal
          have hxa := hlg.ev a hal
          obtain ⟨x, hxe⟩ : ∃ x, x = evn L.ev a := ⟨_, rfl⟩
          obtain ⟨u, hue⟩ : ∃ u, u = V a := ⟨_, rfl⟩
          obtain ⟨A2, hA2⟩ : ∃ A, A = at_ ve (a * 10) := ⟨_, rfl⟩
          rw [← hxe] at hxa
          rw [← hue] at hxa
          obtain ⟨S2, hS2⟩ : ∃ S, S = x.seq := ⟨_, rfl⟩
          obtain ⟨Q, hQ⟩ : ∃ Q, Q = evEq x e := ⟨_, rfl⟩
          have hSC : synC L a b = (S2 && S1 && Q) := by unfold synC; rw [hS1, hS2, hQ, ← hxe, ← HE.out]
          have HQ := Lib.hid hQ
          obtain ⟨j1, j2, j3, -⟩ := ev_facts hxa
          have KF : Hid (∀ w', Ext wr w' → w'.cell? ⟨g0, 0, none⟩ = some ve ∧ w'.cell? ⟨g5, 0, none⟩ = some (.int .i64 (e).ag) ∧ w'.cell? ⟨g5, 1, none⟩ = some (.int .i64 (e).kind) ∧ w'.cell? ⟨g5, 2, none⟩ = some (.bool S1) ∧ w'.cell? ⟨g5, 3, none⟩ = some (.bool (e).nt) ∧ w'.cell? ⟨g5, 4, none⟩ = some (.int .i64 (e).blk) ∧ w'.cell? ⟨g5, 5, none⟩ = some (.int .i64 (e).at_) ∧ w'.cell? ⟨g5, 6, none⟩ = some (.int .i64 (e).size) ∧ w'.cell? ⟨g5, 7, none⟩ = some v.r ∧ w'.cell? ⟨g5, 8, none⟩ = some v.w ∧ w'.cell? ⟨g5, 9, none⟩ = some v.f ∧ w'.cell? A2 = some (.int .i64 (x).ag) ∧ w'.cell? ⟨A2.block, A2.off + 1, none⟩ = some (.int .i64 (x).kind) ∧ w'.cell? ⟨A2.block, A2.off + 2, none⟩ = some (.bool S2) ∧ w'.cell? ⟨A2.block, A2.off + 3, none⟩ = some (.bool (x).nt) ∧ w'.cell? ⟨A2.block, A2.off + 4, none⟩ = some (.int .i64 (x).blk) ∧ w'.cell? ⟨A2.block, A2.off + 5, none⟩ = some (.int .i64 (x).at_) ∧ w'.cell? ⟨A2.block, A2.off + 6, none⟩ = some (.int .i64 (x).size) ∧ w'.cell? ⟨A2.block, A2.off + 7, none⟩ = some u.r ∧ w'.cell? ⟨A2.block, A2.off + 8, none⟩ = some u.w ∧ w'.cell? ⟨A2.block, A2.off + 9, none⟩ = some u.f) := Lib.hid fun w' z => by
           have d := (hbx.ext z).cells
           rw [← hS1] at d
           have y := ((KE.out _ (X1.out.trans (hlp.x.trans z))).1).cells hal
           rw [← hxe, ← hue, ← hS2, ← hA2] at y
           obtain ⟨d0, d1, d2, d3, d4, d5, d6, d7, d8, d9⟩ := d
           exact ⟨(KE.out _ (X1.out.trans (hlp.x.trans z))).2.cells.1, d0, d1, d2, d3, d4, d5, d6, d7, d8, d9, y⟩
          have KV : Hid (∀ w', Ext wr w' → EvAt w' ⟨x.ag, x.kind, S2, x.nt, x.blk, x.at_, x.size, x.rd, x.wr, x.fr⟩ u ∧ EvAt w' ⟨e.ag, e.kind, S1, e.nt, e.blk, e.at_, e.size, e.rd, e.wr, e.fr⟩ v) := Lib.hid fun w' z => by
           rw [hS1, hS2]; exact ⟨hxa.ext z, hea.ext z⟩
          have HXN : Hid ((S2 && S1 && Q) = false → ∀ x y, synP L b k x y = synP L b (k + 1) x y) := Lib.hid (by rw [← hSC]; intro hn; have := HE.out; subst this; exact synP_no hkl (.inr ⟨a, hx, hn⟩))
          have HXP : Hid ((S2 && S1 && Q) = true → ∀ x y, putR (synP L b k) a b x y = synP L b (k + 1) x y) := Lib.hid (by rw [← hSC]; intro hn; have := HE.out; subst this; exact synP_put hkl hx hn)
          have HLP := Lib.hid hlp
          rw [← hA2] at i2
          clear hx hlp hbx hS1 hS2 hSC hQ hxe hue hA2 hlg hea hxa y0 y1 y2 y3 y4 y5 y6 y7 y8 y9
          go_upto_region 10 with fail
          cases S1 with
          | false =>
           refine wp_region_plan [(0, true), (1, true), (2, true), (3, true), (4, true), (5, true), (6, true), (7, true), (8, true), (9, true), (10, true), (11, true), (12, true), (13, true), (14, true), (15, true), (16, true), (17, true), (18, true), (19, true), (20, true), (21, false), (22, true)] (fun w' => w'.cell? ⟨g0, 0, none⟩ = some ve ∧ w'.cell? ⟨g5, 0, none⟩ = some (.int .i64 (e).ag) ∧ w'.cell? ⟨g5, 1, none⟩ = some (.int .i64 (e).kind) ∧ w'.cell? ⟨g5, 2, none⟩ = some (.bool false) ∧ w'.cell? ⟨g5, 3, none⟩ = some (.bool (e).nt) ∧ w'.cell? ⟨g5, 4, none⟩ = some (.int .i64 (e).blk) ∧ w'.cell? ⟨g5, 5, none⟩ = some (.int .i64 (e).at_) ∧ w'.cell? ⟨g5, 6, none⟩ = some (.int .i64 (e).size) ∧ w'.cell? ⟨g5, 7, none⟩ = some v.r ∧ w'.cell? ⟨g5, 8, none⟩ = some v.w ∧ w'.cell? ⟨g5, 9, none⟩ = some v.f ∧ w'.cell? A2 = some (.int .i64 (x).ag) ∧ w'.cell? ⟨A2.block, A2.off + 1, none⟩ = some (.int .i64 (x).kind) ∧ w'.cell? ⟨A2.block, A2.off + 2, none⟩ = some (.bool S2) ∧ w'.cell? ⟨A2.block, A2.off + 3, none⟩ = some (.bool (x).nt) ∧ w'.cell? ⟨A2.block, A2.off + 4, none⟩ = some (.int .i64 (x).blk) ∧ w'.cell? ⟨A2.block, A2.off + 5, none⟩ = some (.int .i64 (x).at_) ∧ w'.cell? ⟨A2.block, A2.off + 6, none⟩ = some (.int .i64 (x).size) ∧ w'.cell? ⟨A2.block, A2.off + 7, none⟩ = some u.r ∧ w'.cell? ⟨A2.block, A2.off + 8, none⟩ = some u.w ∧ w'.cell? ⟨A2.block, A2.off + 9, none⟩ = some u.f) (by kernel_rfl) (by kernel_rfl) (by kernel_rfl) (fun _ d _ _ _ h => by cases d <;> exact h) (KF.out _ (Mod.drew (Mod.refl _ _))) ?_
           simp only [planL, getO]
           iterate 7 (refine plan_take (v := ?_) (by rfl) (fun wS hS => ?_) ?_; rotate_left; (focus ((try dsimp only at hS); go_simp; (try with_reducible rfl); done)); (try simp only [Act.put, List.setIfInBounds_toArray, List.set_cons_zero, List.set_cons_succ]))
           iterate 6 (refine plan_skip (by rfl) ?_; (try simp only [Act.put, List.setIfInBounds_toArray, List.set_cons_zero, List.set_cons_succ]))
           iterate 2 (refine plan_take (v := ?_) (by rfl) (fun wS hS => ?_) ?_; rotate_left; (focus ((try dsimp only at hS); go_simp; (try with_reducible rfl); done)); (try simp only [Act.put, List.setIfInBounds_toArray, List.set_cons_zero, List.set_cons_succ]))
           iterate 7 (refine plan_skip (by rfl) ?_; (try simp only [Act.put, List.setIfInBounds_toArray, List.set_cons_zero, List.set_cons_succ]))
           (refine plan_take (v := ?_) (by rfl) (fun wS hS => ?_) ?_; rotate_left; (focus ((try dsimp only at hS); go_simp; (try with_reducible rfl); done)); (try simp only [Act.put, List.setIfInBounds_toArray, List.set_cons_zero, List.set_cons_succ]))
           refine plan_nil ?_
           go_wp2_with fail
           go_roundw
           case rel => exact ⟨k + 1, by omega, by go_num, (HLP.out.ext ((Mod.refl _ _).drew)).congr fun x y _ _ => HXN.out (by cases S2 <;> rfl) x y, HB5.out.ext ((Mod.refl _ _).drew)⟩
           case measure => simp [intOf]; omega
          | true =>
           cases S2 with
           | false =>
            refine wp_region_plan [(0, true), (1, true), (2, true), (3, true), (4, true), (5, true), (6, true), (7, true), (8, true), (9, true), (10, true), (11, true), (12, true), (13, true), (14, true), (15, true), (16, true), (17, true), (18, true), (19, true), (20, true), (21, false), (22, true)] (fun w' => w'.cell? ⟨g0, 0, none⟩ = some ve ∧ w'.cell? ⟨g5, 0, none⟩ = some (.int .i64 (e).ag) ∧ w'.cell? ⟨g5, 1, none⟩ = some (.int .i64 (e).kind) ∧ w'.cell? ⟨g5, 2, none⟩ = some (.bool true) ∧ w'.cell? ⟨g5, 3, none⟩ = some (.bool (e).nt) ∧ w'.cell? ⟨g5, 4, none⟩ = some (.int .i64 (e).blk) ∧ w'.cell? ⟨g5, 5, none⟩ = some (.int .i64 (e).at_) ∧ w'.cell? ⟨g5, 6, none⟩ = some (.int .i64 (e).size) ∧ w'.cell? ⟨g5, 7, none⟩ = some v.r ∧ w'.cell? ⟨g5, 8, none⟩ = some v.w ∧ w'.cell? ⟨g5, 9, none⟩ = some v.f ∧ w'.cell? A2 = some (.int .i64 (x).ag) ∧ w'.cell? ⟨A2.block, A2.off + 1, none⟩ = some (.int .i64 (x).kind) ∧ w'.cell? ⟨A2.block, A2.off + 2, none⟩ = some (.bool false) ∧ w'.cell? ⟨A2.block, A2.off + 3, none⟩ = some (.bool (x).nt) ∧ w'.cell? ⟨A2.block, A2.off + 4, none⟩ = some (.int .i64 (x).blk) ∧ w'.cell? ⟨A2.block, A2.off + 5, none⟩ = some (.int .i64 (x).at_) ∧ w'.cell? ⟨A2.block, A2.off + 6, none⟩ = some (.int .i64 (x).size) ∧ w'.cell? ⟨A2.block, A2.off + 7, none⟩ = some u.r ∧ w'.cell? ⟨A2.block, A2.off + 8, none⟩ = some u.w ∧ w'.cell? ⟨A2.block, A2.off + 9, none⟩ = some u.f) (by kernel_rfl) (by kernel_rfl) (by kernel_rfl) (fun _ d _ _ _ h => by cases d <;> exact h) (KF.out _ (Mod.drew (Mod.refl _ _))) ?_
            simp only [planL, getO]
            iterate 15 (refine plan_take (v := ?_) (by rfl) (fun wS hS => ?_) ?_; rotate_left; (focus ((try dsimp only at hS); go_simp; (try with_reducible rfl); done)); (try simp only [Act.put, List.setIfInBounds_toArray, List.set_cons_zero, List.set_cons_succ]))
            iterate 7 (refine plan_skip (by rfl) ?_; (try simp only [Act.put, List.setIfInBounds_toArray, List.set_cons_zero, List.set_cons_succ]))
            (refine plan_take (v := ?_) (by rfl) (fun wS hS => ?_) ?_; rotate_left; (focus ((try dsimp only at hS); go_simp; (try with_reducible rfl); done)); (try simp only [Act.put, List.setIfInBounds_toArray, List.set_cons_zero, List.set_cons_succ]))
            refine plan_nil ?_
            go_wp2_with fail
            go_roundw
            case rel => exact ⟨k + 1, by omega, by go_num, (HLP.out.ext ((Mod.refl _ _).drew)).congr fun x y _ _ => HXN.out rfl x y, HB5.out.ext ((Mod.refl _ _).drew)⟩
            case measure => simp [intOf]; omega
           | true =>
            refine wp_region_plan [(0, true), (1, true), (2, true), (3, true), (4, true), (5, true), (6, true), (7, true), (8, true), (9, true), (10, true), (11, true), (12, true), (13, true), (14, true), (15, true), (16, true), (17, true), (18, true), (19, true), (20, true), (21, false), (22, true)] (fun w' => w'.cell? ⟨g0, 0, none⟩ = some ve ∧ w'.cell? ⟨g5, 0, none⟩ = some (.int .i64 (e).ag) ∧ w'.cell? ⟨g5, 1, none⟩ = some (.int .i64 (e).kind) ∧ w'.cell? ⟨g5, 2, none⟩ = some (.bool true) ∧ w'.cell? ⟨g5, 3, none⟩ = some (.bool (e).nt) ∧ w'.cell? ⟨g5, 4, none⟩ = some (.int .i64 (e).blk) ∧ w'.cell? ⟨g5, 5, none⟩ = some (.int .i64 (e).at_) ∧ w'.cell? ⟨g5, 6, none⟩ = some (.int .i64 (e).size) ∧ w'.cell? ⟨g5, 7, none⟩ = some v.r ∧ w'.cell? ⟨g5, 8, none⟩ = some v.w ∧ w'.cell? ⟨g5, 9, none⟩ = some v.f ∧ w'.cell? A2 = some (.int .i64 (x).ag) ∧ w'.cell? ⟨A2.block, A2.off + 1, none⟩ = some (.int .i64 (x).kind) ∧ w'.cell? ⟨A2.block, A2.off + 2, none⟩ = some (.bool true) ∧ w'.cell? ⟨A2.block, A2.off + 3, none⟩ = some (.bool (x).nt) ∧ w'.cell? ⟨A2.block, A2.off + 4, none⟩ = some (.int .i64 (x).blk) ∧ w'.cell? ⟨A2.block, A2.off + 5, none⟩ = some (.int .i64 (x).at_) ∧ w'.cell? ⟨A2.block, A2.off + 6, none⟩ = some (.int .i64 (x).size) ∧ w'.cell? ⟨A2.block, A2.off + 7, none⟩ = some u.r ∧ w'.cell? ⟨A2.block, A2.off + 8, none⟩ = some u.w ∧ w'.cell? ⟨A2.block, A2.off + 9, none⟩ = some u.f) (by kernel_rfl) (by kernel_rfl) (by kernel_rfl) (fun _ d _ _ _ h => by cases d <;> exact h) (KF.out _ (Mod.drew (Mod.refl _ _))) ?_
            simp only [planL, getO]
            iterate 21 (refine plan_take (v := ?_) (by rfl) (fun wS hS => ?_) ?_; rotate_left; (focus ((try dsimp only at hS); go_simp; (try with_reducible rfl); done)); (try simp only [Act.put, List.setIfInBounds_toArray, List.set_cons_zero, List.set_cons_succ]))
            refine plan_call (fun K hK => ?_)
            go_simp
            go_at_call 130; refine (equal_any _ ⟨x.ag, x.kind, true, x.nt, x.blk, x.at_, x.size, x.rd, x.wr, x.fr⟩ ⟨e.ag, e.kind, true, e.nt, e.blk, e.at_, e.size, e.rd, e.wr, e.fr⟩ u v (KV.out _ (Mod.drew (Mod.refl _ _))).1 (KV.out _ (Mod.drew (Mod.refl _ _))).2).mono ?_; rintro en w6 ⟨rfl, y6⟩; have E6 : Ext wr w6 := Mod.trans (Mod.drew (Mod.refl _ _)) y6
            refine hK.out _ _ (KF.out _ E6) ?_
            clear hK K
            (try simp only [Act.put, List.setIfInBounds_toArray, List.set_cons_zero, List.set_cons_succ])
            (refine plan_take (v := ?_) (by rfl) (fun wS hS => ?_) ?_; rotate_left; (focus ((try dsimp only at hS); go_simp; (try with_reducible rfl); done)); (try simp only [Act.put, List.setIfInBounds_toArray, List.set_cons_zero, List.set_cons_succ]))
            refine plan_nil ?_
            have hq : evEq ⟨x.ag, x.kind, true, x.nt, x.blk, x.at_, x.size, x.rd, x.wr, x.fr⟩ ⟨e.ag, e.kind, true, e.nt, e.blk, e.at_, e.size, e.rd, e.wr, e.fr⟩ = Q := HQ.out.symm
            rw [hq]
            clear hq
            cases Q with
            | false =>
             go_wp2_with fail
             go_roundw
             case rel => exact ⟨k + 1, by omega, by go_num, (HLP.out.ext E6).congr fun x y _ _ => HXN.out rfl x y, HB5.out.ext E6⟩
             case measure => simp [intOf]; omega
            | true =>
             go_wp2_with fail
             refine (rput_any w1 _ g rv r _ _ (HLP.out.ext E6) a b hal hlt).mono ?_
             rintro en w8 ⟨rfl, hlp8, m8⟩
             have HB8 : Hid (EvBox w8 g5 e v) := Lib.hid ⟨m8.blk (HB5.out.ext E6).b ((HLP.out.ext E6).apart (HB5.out.ext E6).b (by decide) (by decide) (by decide))⟩
             have HLP8 := Lib.hid hlp8
             clear hlp8 m8
             go_wp2_with fail
             go_roundw
             case rel => exact ⟨k + 1, by omega, by go_num, HLP8.out.congr fun x y _ _ => HXP.out rfl x y, HB8.out⟩
             case measure => simp [intOf]; omega
      · have hkl' : ¬ (k : Int) < (e.fr.length : Int) := by omega
        have HK : Hid (k = e.fr.length) := Lib.hid (by omega)
        have HLP := Lib.hid hlp
        clear hlp hbx
        go_wp2_with fail
        go_roundw
        case rel => exact ⟨b + 1, by omega, by go_num, HLP.out.congr fun x y _ _ => synP_all (by rw [← HW5.out.2.2.2.1]; exact HK.out) x y⟩
        case measure => simp [intOf]; omega
   · have hlt' : ¬ (b : Int) < (L.ev.length : Int) := by omega
     have HK : Hid (b = L.ev.length) := Lib.hid (by omega)
     have R7 : RelLoop w1 g rv r L.ev.length (pairP L 0) wr := hlp.congr fun x y _ hy => by have := HK.out; rw [pairP_zero]; simp; intro _; omega
     obtain ⟨c0, c1⟩ := (KE.out _ (X1.out.trans hlp.x)).2.cells
     clear hlp
     go_wp2_with fail
     clear c0 c1
     go_loopw [65] (fun s wr => ∃ i : Nat, i ≤ L.pr.length ∧ s = .int .i64 (i : Int) ∧ RelLoop w1 g rv r L.ev.length (pairP L i) wr) (fun s _ => L.pr.length - (intOf s).toNat)
     case atStart => exact ⟨0, Nat.zero_le _, rfl, R7⟩
     case round =>
      obtain ⟨i, hi, rfl, hlp⟩ := hrel
      clear R7
      by_cases hil : i < L.pr.length
      · have hil' : (i : Int) < (L.pr.length : Int) := by omega
        have i0 := HJ.out i hil
        obtain ⟨c0, c1⟩ := ((KE.out _ (X1.out.trans hlp.x)).1).pcells hil
        obtain ⟨pa, pb, hpe, hp1, hp2⟩ := may_pair HM.out hil
        rw [hpe] at c0 c1
        obtain ⟨A, hA⟩ : ∃ A, A = at_ vp (i * 2) := ⟨_, rfl⟩
        rw [← hA] at i0 c0 c1
        have HPE := Lib.hid hpe
        have HPN := Lib.hid (And.intro hp1 hp2)
        have HLP := Lib.hid hlp
        clear hlp hA hpe hp1 hp2
        go_wp2_with fail
        refine (rput_any w1 _ g rv r _ _ (HLP.out.ext ((Mod.refl _ _).alloc _)) pa pb (by have := HPN.out; omega) HPN.out.2).mono ?_
        rintro en w8 ⟨rfl, hlp8, -⟩
        have HLP8 := Lib.hid hlp8
        clear hlp8
        go_wp2_with fail
        go_roundw
        case rel => exact ⟨i + 1, by omega, by go_num, HLP8.out.congr fun x y _ _ => pairP_put hil HPE.out x y⟩
        case measure => simp [intOf]; omega
      · have hil' : ¬ (i : Int) < (L.pr.length : Int) := by omega
        have HK2 : Hid (i = L.pr.length) := Lib.hid (by omega)
        have HLP := Lib.hid hlp
        clear hlp
        go_wp2_with fail
        go_ret
        have e0 : relN L = L.ev.length := by unfold relN; rw [if_pos HM.out]
        rw [e0]
        exact ((HLP.out.congr fun x y _ _ => pairP_all HK2.out x y).back (HW.out.2.2.trans X1.out)).post
end Go.Proofs.YtbhocahmhmafmaaGreat
namespace Go.Proofs.YtbhocahmhmafmaaGreat
open Go.Ren Go.RowKit
set_option linter.unusedVariables false
def orR (R : Nat → Nat → Bool) (a b : Nat) : Nat → Nat → Bool := fun x y => R x y || (decide (x = a) && R b y)
theorem RelLoop.orRow {w0 w : World} {g n : Nat} {rv : Value} {r M : Nat → Nat} {R : Nat → Nat → Bool} (h : RelLoop w0 g rv r n R w) (hat : RelAt w g rv r n M) (hM : ∀ a b, a < n → b < n → (M a).testBit b = R a b) {a b : Nat} (ha : a < n) (hb : b < n) :
 RelLoop w0 g rv r n (orR R a b) (w.setCell ⟨r a, 0, none⟩ (.int .u64 ((M a ||| M b : Nat) : Int))) := by
 obtain ⟨p1, p2⟩ := hat.put ha (or_lt64 (hat.lt a ha) (hat.lt b hb))
 have p3 : Mod (RelFp g rv r n) w (w.setCell ⟨r a, 0, none⟩ (.int .u64 ((M a ||| M b : Nat) : Int))) := p2.weak (fun i hi => .inl (.inr (.inr ⟨a, ha, hi⟩)))
 refine ⟨⟨_, p1, fun x y hx hy => ?_⟩, h.x.trans' p3 (fun i hi => .inr (h.fr i hi)), h.fr⟩
 unfold orR updN
 by_cases e : x = a
 · subst e
   simp only [if_true, decide_true, Bool.true_and, Nat.testBit_or, hM x y hx hy, hM b y hb hy]
 · simp [e, hM x y hx hy]
theorem bef_step {L : Lg} {a b : Nat} (hab : a < b) (hq : hbB L a b = true) (x y : Nat) : orR (putR (befB L a b) a b) a b x y = befB L a (b + 1) x y := by
 unfold orR putR befB
 by_cases h1 : a < x
 · have : x ≠ a := by omega
   simp [h1, this]
 · by_cases h2 : x = a
   · subst h2
     have hb : ¬ b = x := by omega
     simp [hab, acc_yes hq y, hb]
   · simp [h1, h2]
theorem bef_no {L : Lg} {a b : Nat} (hq : hbB L a b = false) (x y : Nat) : befB L a b x y = befB L a (b + 1) x y := by
 unfold befB
 rw [acc_no hq y]
theorem bef_start (L : Lg) (a x y : Nat) : (if (a : Int) < (x : Int) then hbB L x y else synB L x y) = befB L a (a + 1) x y := by
 unfold befB
 rw [acc_start]
 by_cases h1 : a < x
 · rw [if_pos (by omega), if_pos h1]
 · rw [if_neg (by omega), if_neg h1]
   by_cases h2 : x = a
   · subst h2; rw [if_pos rfl]
   · rw [if_neg h2]
theorem bef_end {L : Lg} (hm : mayL L = true) {a x y : Nat} (hy : y < L.ev.length) : befB L a L.ev.length x y = (if (a : Int) - 1 < (x : Int) then hbB L x y else synB L x y) := by
 unfold befB
 by_cases h1 : a < x
 · rw [if_pos h1, if_pos (by omega)]
 · rw [if_neg h1]
   by_cases h2 : x = a
   · subst h2; rw [if_pos rfl, if_pos (by omega), acc_end hm hy]
   · rw [if_neg h2, if_neg (by omega)]
set_option maxRecDepth 100000 in
set_option maxHeartbeats 1600000 in
theorem rbefore_any (w : World) (ve vp : Value) (V : Nat → Vs) (L : Lg) (h : LogIn w ve vp V L) (hl : L.ev.length ≤ 64) :
 Calls Tryz.prog 68 #[.agg #[ve, vp]] w (RelPost (relN L) (hbB L) w) := by
 have q1 := Sl.cells_eq h.row
 have q2 := Sl.cells_eq h.prow
 have s1 := Sl.run_st (P := Tryz.prog) h.row
 have s2 := Sl.run_st (P := Tryz.prog) h.prow
 have HI := Lib.hid (h.row.run_idx (P := Tryz.prog) IEv.und IEv.size .i64)
 obtain ⟨w0, hw0⟩ : ∃ w0, w0 = w.alloc (.cells #[ve, vp] 48) := ⟨_, rfl⟩
 obtain ⟨g0, hg0⟩ : ∃ g, g = w.heap.size := ⟨_, rfl⟩
 have x0 : Ext w w0 := by rw [hw0]; exact (Mod.refl _ _).alloc _
 have b0 : LogBox w0 g0 ve vp := ⟨by rw [hw0, hg0]; exact heap_alloc_new _ _⟩
 have HW := Lib.hid (And.intro hw0 (And.intro hg0 x0))
 have KE : Hid (∀ w', Ext w0 w' → LogIn w' ve vp V L ∧ LogBox w' g0 ve vp) := Lib.hid fun w' x => ⟨h.ext (x0.trans x), b0.ext x⟩
 obtain ⟨c0, c1⟩ := b0.cells
 clear hw0 hg0 x0 b0 h
 have HL := Lib.hid hl
 clear hl
 go_enter Tryz.func68, Tryz.ntmps68
 go_upto_region 1 with fail
 rw [← HW.out.1, ← HW.out.2.1]
 clear s1 s2
 go_wp2_with fail
 refine (rsync_any _ ve vp V L (KE.out _ (Mod.refl _ _)).1 HL.out).mono ?_
 rintro e w1 h1
 obtain ⟨g, rv, r, rfl, hlp⟩ := h1.loop
 clear h1 c0 c1
 obtain ⟨n, hn⟩ : ∃ n, n = relN L := ⟨_, rfl⟩
 rw [← hn] at hlp ⊢
 have HNN := Lib.hid hn
 clear hn
 have hnle : (n : Int) ≤ 64 := by have := hlp.le; omega
 have R0 : RelLoop w0 g rv r n (fun x y => if (n : Int) - 1 < (x : Int) then hbB L x y else synB L x y) w1 := hlp.congr fun x y hx _ => (by rw [if_neg (by omega)])
 have d0 := hlp.len.1
 clear hlp
 go_wp2_with fail
 clear d0
 go_loopw [4] (fun s wr => ∃ z : Int, s = .int .i64 z ∧ -1 ≤ z ∧ z < n ∧ RelLoop w0 g rv r n (fun x y => if z < (x : Int) then hbB L x y else synB L x y) wr) (fun s _ => (intOf s + 1).toNat)
 case atStart => exact ⟨(n : Int) - 1, by go_num, by omega, by omega, R0⟩
 case round =>
  obtain ⟨z, rfl, hz1, hz2, hlp⟩ := hrel
  clear R0
  by_cases hz : 0 ≤ z
  · obtain ⟨a, rfl⟩ := Int.eq_ofNat_of_zero_le hz
    have hm : mayL L = true := by
     cases hm : mayL L with
     | true => rfl
     | false => exfalso; have h1 := HNN.out; unfold relN at h1; rw [hm, if_neg (by simp)] at h1; omega
    have hnl : n = L.ev.length := by have h1 := HNN.out; unfold relN at h1; rwa [hm, if_pos rfl] at h1
    have HM := Lib.hid (And.intro hm hnl)
    clear hm hnl
    have R1 : RelLoop w0 g rv r n (befB L a (a + 1)) wr := hlp.congr fun x y _ _ => bef_start L a x y
    clear hlp
    go_wp2_with fail
    go_loopw [5] (fun s wr => ∃ b : Nat, a < b ∧ b ≤ n ∧ s = .int .i64 (b : Int) ∧ RelLoop w0 g rv r n (befB L a b) wr) (fun s _ => n - (intOf s).toNat)
    case atStart => exact ⟨a + 1, by omega, by omega, by go_num, R1⟩
    case round =>
     obtain ⟨b, hab, hbn, rfl, hlp⟩ := hrel
     clear R1
     have d0 := hlp.len.1
     by_cases hlt : b < n
     · have hlt' : (b : Int) < (n : Int) := by omega
       have hlg := (KE.out _ hlp.x).1
       have i0 := HI.out a (by have := HM.out.2; omega)
       have i1 := HI.out b (by have := HM.out.2; omega)
       have c0 := (hlg.cells (show a < L.ev.length by have := HM.out.2; omega)).1
       have c1 := (hlg.cells (show b < L.ev.length by have := HM.out.2; omega)).1
       obtain ⟨p1, hp1⟩ : ∃ p, p = (evn L.ev a).ag := ⟨_, rfl⟩
       obtain ⟨p2, hp2⟩ : ∃ p, p = (evn L.ev b).ag := ⟨_, rfl⟩
       obtain ⟨A1, hA1⟩ : ∃ A, A = at_ ve (a * 10) := ⟨_, rfl⟩
       obtain ⟨A2, hA2⟩ : ∃ A, A = at_ ve (b * 10) := ⟨_, rfl⟩
       rw [← hp1, ← hA1] at c0
       rw [← hp2, ← hA2] at c1
       rw [← hA1] at i0
       rw [← hA2] at i1
       have KF : Hid (∀ w', Ext wr w' → w'.cell? ⟨g0, 0, none⟩ = some ve ∧ w'.cell? A1 = some (.int .i64 p1) ∧ w'.cell? A2 = some (.int .i64 p2)) := Lib.hid fun w' x => ⟨(KE.out _ (hlp.x.trans x)).2.cells.1, Ext.cell x c0, Ext.cell x c1⟩
       obtain ⟨Q, hQ⟩ : ∃ Q, Q = hbB L a b := ⟨_, rfl⟩
       have HH := Lib.hid hQ.symm
       have hte := acc_test HM.out.1 hab (by have := HM.out.2; omega)
       rw [← hp1, ← hp2, ← hQ] at hte
       have HT := Lib.hid hte
       have HLP := Lib.hid hlp
       clear hlp hlg hp1 hp2 hA1 hA2 c0 c1 hQ hte
       by_cases hag : p1 = p2
       · subst hag
         have HQT : Hid (hbB L a b = true) := Lib.hid (by have := HT.out; simp at this; rw [HH.out]; exact this)
         have HH := HQT
         go_upto_region 8 with fail
         refine wp_region_plan [(0, true), (1, true), (2, true), (3, true), (4, true), (5, true), (6, true), (7, true), (8, true), (9, true), (10, true), (11, true), (12, true), (13, true), (14, true), (15, true), (16, true), (17, false), (18, true)] (fun w' => w'.cell? ⟨g0, 0, none⟩ = some ve ∧ w'.cell? A1 = some (.int .i64 p1) ∧ w'.cell? A2 = some (.int .i64 p1)) (by kernel_rfl) (by kernel_rfl) (by kernel_rfl) (fun _ d _ _ _ h => by cases d <;> exact h) (KF.out _ (Mod.drew (Mod.refl _ _))) ?_
         simp only [planL, getO]
         iterate 14 (refine plan_take (v := ?_) (by rfl) (fun wS hS => ?_) ?_; rotate_left; (focus ((try dsimp only at hS); go_simp; (try with_reducible rfl); done)); (try simp only [Act.put, List.setIfInBounds_toArray, List.set_cons_zero, List.set_cons_succ]))
         iterate 4 (refine plan_skip (by rfl) ?_; (try simp only [Act.put, List.setIfInBounds_toArray, List.set_cons_zero, List.set_cons_succ]))
         (refine plan_take (v := ?_) (by rfl) (fun wS hS => ?_) ?_; rotate_left; (focus ((try dsimp only at hS); go_simp; (try with_reducible rfl); done)); (try simp only [Act.put, List.setIfInBounds_toArray, List.set_cons_zero, List.set_cons_succ]))
         refine plan_nil ?_
         have EX : Ext wr wr.drew := Mod.drew (Mod.refl _ _)
         go_wp2_with fail
         refine (rput_any w0 _ g rv r _ _ (HLP.out.ext EX) a b (by omega) hlt).mono ?_
         rintro en w8 ⟨rfl, hlp8, -⟩
         have HLP8 := Lib.hid hlp8
         have d1 := hlp8.len.2
         obtain ⟨M, hat, hM⟩ := hlp8.ex
         have j0 := hat.row.sl.run_idx (P := Tryz.prog) IRow.und IRow.size .i64 b hlt
         simp only [Nat.mul_one] at j0
         have c5 := hat.rowc hlt
         clear hat hM hlp8
         go_wp2_with fail
         clear d1 j0 c5
         go_loopw [60] (fun s wq => ∃ k : Nat, k ≤ 1 ∧ s = .int .i64 (k : Int) ∧ ((k = 0 ∧ RelLoop w0 g rv r n (putR (befB L a b) a b) wq) ∨ (k = 1 ∧ RelLoop w0 g rv r n (orR (putR (befB L a b) a b) a b) wq))) (fun s _ => 1 - (intOf s).toNat)
         case atStart => exact ⟨0, by omega, rfl, .inl ⟨rfl, HLP8.out⟩⟩
         case round =>
          obtain ⟨k, hk, rfl, hd⟩ := hrel
          rcases hd with ⟨rfl, hq⟩ | ⟨rfl, hq⟩
          · have HQ2 := Lib.hid hq
            have d1 := hq.len.2
            obtain ⟨M, hat, hM⟩ := hq.ex
            have j0 := hat.row.sl.run_idx (P := Tryz.prog) IRow.und IRow.size .i64 a (by omega)
            simp only [Nat.mul_one] at j0
            have c5 := hat.rowc (show a < n by omega)
            have c6 := (hat.wordc hlt).1
            obtain ⟨c7, f7⟩ := hat.wordc (show a < n by omega)
            have HO : Hid (bits .or .u64 (M a : Int) (M b : Int) = ((M a ||| M b : Nat) : Int)) := Lib.hid (bits_or64 (hat.lt a (by omega)) (hat.lt b hlt))
            have HP := Lib.hid (hq.orRow hat hM (show a < n by omega) hlt)
            clear hat hM hq
            go_wp2_with fail
            rw [HO.out]
            go_roundw
            case rel => exact ⟨1, by omega, by go_num, .inr ⟨rfl, HP.out⟩⟩
            case measure => simp [intOf]
          · have HQ2 := Lib.hid hq
            clear hq
            go_wp2_with fail
            go_roundw
            case rel => exact ⟨b + 1, by omega, by omega, by go_num, HQ2.out.congr fun x y _ _ => bef_step hab HH.out x y⟩
            case measure => simp [intOf]; omega
       · have hne : (p1 == p2) = false := by simpa using hag
         have HQ : Hid (hasB n (befB L a b) (a : Int) (b : Int) = Q) := Lib.hid (by
          rw [← HT.out]
          unfold hasB befB
          have : decide (0 ≤ (a : Int) ∧ (a : Int) < (n : Int) ∧ 0 ≤ (b : Int) ∧ (b : Int) < (n : Int)) = true := by rw [decide_eq_true_eq]; omega
          rw [this]
          simp [hag])
         clear hag
         go_upto_region 8 with fail
         refine wp_region_plan [(0, true), (1, true), (2, true), (3, true), (4, true), (5, true), (6, true), (7, true), (8, true), (9, true), (10, true), (11, true), (12, true), (13, true), (14, true), (15, true), (16, true), (17, false), (18, true)] (fun w' => w'.cell? ⟨g0, 0, none⟩ = some ve ∧ w'.cell? A1 = some (.int .i64 p1) ∧ w'.cell? A2 = some (.int .i64 p2)) (by kernel_rfl) (by kernel_rfl) (by kernel_rfl) (fun _ d _ _ _ h => by cases d <;> exact h) (KF.out _ (Mod.drew (Mod.refl _ _))) ?_
         simp only [planL, getO]
         iterate 17 (refine plan_take (v := ?_) (by rfl) (fun wS hS => ?_) ?_; rotate_left; (focus ((try dsimp only at hS); go_simp; (try with_reducible rfl); done)); (try simp only [Act.put, List.setIfInBounds_toArray, List.set_cons_zero, List.set_cons_succ]))
         refine plan_call (fun K hK => ?_)
         go_simp
         go_at_call 126; refine (has_any _ _ n _ (HLP.out.is.ext (Mod.drew (Mod.refl _ _))) a b).mono ?_; rintro en w6 ⟨rfl, y6⟩; have E6 : Ext wr w6 := Mod.trans (Mod.drew (Mod.refl _ _)) y6; rw [HQ.out]
         refine hK.out _ _ (KF.out _ E6) ?_
         clear hK K
         (try simp only [Act.put, List.setIfInBounds_toArray, List.set_cons_zero, List.set_cons_succ])
         (refine plan_take (v := ?_) (by rfl) (fun wS hS => ?_) ?_; rotate_left; (focus ((try dsimp only at hS); go_simp; (try with_reducible rfl); done)); (try simp only [Act.put, List.setIfInBounds_toArray, List.set_cons_zero, List.set_cons_succ]))
         refine plan_nil ?_
         clear hne
         have EX : Ext wr w6 := E6
         cases Q with
         | true =>
          go_wp2_with fail
          refine (rput_any w0 _ g rv r _ _ (HLP.out.ext EX) a b (by omega) hlt).mono ?_
          rintro en w8 ⟨rfl, hlp8, -⟩
          have HLP8 := Lib.hid hlp8
          have d1 := hlp8.len.2
          obtain ⟨M, hat, hM⟩ := hlp8.ex
          have j0 := hat.row.sl.run_idx (P := Tryz.prog) IRow.und IRow.size .i64 b hlt
          simp only [Nat.mul_one] at j0
          have c5 := hat.rowc hlt
          clear hat hM hlp8
          go_wp2_with fail
          clear d1 j0 c5
          go_loopw [60] (fun s wq => ∃ k : Nat, k ≤ 1 ∧ s = .int .i64 (k : Int) ∧ ((k = 0 ∧ RelLoop w0 g rv r n (putR (befB L a b) a b) wq) ∨ (k = 1 ∧ RelLoop w0 g rv r n (orR (putR (befB L a b) a b) a b) wq))) (fun s _ => 1 - (intOf s).toNat)
          case atStart => exact ⟨0, by omega, rfl, .inl ⟨rfl, HLP8.out⟩⟩
          case round =>
           obtain ⟨k, hk, rfl, hd⟩ := hrel
           rcases hd with ⟨rfl, hq⟩ | ⟨rfl, hq⟩
           · have HQ2 := Lib.hid hq
             have d1 := hq.len.2
             obtain ⟨M, hat, hM⟩ := hq.ex
             have j0 := hat.row.sl.run_idx (P := Tryz.prog) IRow.und IRow.size .i64 a (by omega)
             simp only [Nat.mul_one] at j0
             have c5 := hat.rowc (show a < n by omega)
             have c6 := (hat.wordc hlt).1
             obtain ⟨c7, f7⟩ := hat.wordc (show a < n by omega)
             have HO : Hid (bits .or .u64 (M a : Int) (M b : Int) = ((M a ||| M b : Nat) : Int)) := Lib.hid (bits_or64 (hat.lt a (by omega)) (hat.lt b hlt))
             have HP := Lib.hid (hq.orRow hat hM (show a < n by omega) hlt)
             clear hat hM hq
             go_wp2_with fail
             rw [HO.out]
             go_roundw
             case rel => exact ⟨1, by omega, by go_num, .inr ⟨rfl, HP.out⟩⟩
             case measure => simp [intOf]
           · have HQ2 := Lib.hid hq
             clear hq
             go_wp2_with fail
             go_roundw
             case rel => exact ⟨b + 1, by omega, by omega, by go_num, HQ2.out.congr fun x y _ _ => bef_step hab HH.out x y⟩
             case measure => simp [intOf]; omega
         | false =>
          go_wp2_with fail
          go_roundw
          case rel => exact ⟨b + 1, by omega, by omega, by go_num, (HLP.out.ext EX).congr fun x y _ _ => bef_no HH.out x y⟩
          case measure => simp [intOf]; omega
     · have hlt' : ¬ (b : Int) < (n : Int) := by omega
       have HB : Hid (b = L.ev.length) := Lib.hid (by have := HM.out.2; omega)
       have HLP := Lib.hid hlp
       clear hlp
       go_wp2_with fail
       go_roundw
       case rel => exact ⟨(a : Int) - 1, by go_num, by omega, by omega, HLP.out.congr fun x y _ hy => by have := HM.out.2; have hb := HB.out; subst hb; exact bef_end HM.out.1 (by omega)⟩
       case measure => (simp [intOf]; try omega)
  · obtain rfl : z = -1 := by omega
    have HLP := Lib.hid hlp
    clear hlp hz hz1 hz2
    go_wp2_with fail
    go_ret
    rw [← HNN.out]
    exact ((HLP.out.congr fun x y _ _ => by rw [if_pos (by omega)]).back HW.out.2.2).post
end Go.Proofs.YtbhocahmhmafmaaGreat
