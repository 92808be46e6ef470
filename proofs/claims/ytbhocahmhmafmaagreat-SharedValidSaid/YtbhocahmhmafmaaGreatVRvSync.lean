/-
  The contract of renref14.Syncs. No condition.
-/
import Derived.Test.YtbhocahmhmafmaaGreatVRvRel
import Derived.Test.YtbhocahmhmafmaaGreatVRelSync
namespace Go.Ren
def syn1 (L : Lg) (a b x y : Nat) : Bool := if x < a ∨ (x = a ∧ y < b) then synE L x y else fromB L x y
theorem syn1_zero (L : Lg) (x y : Nat) : syn1 L 0 0 x y = fromB L x y := by unfold syn1; rw [if_neg (by omega)]
theorem syn1_at (L : Lg) (a b : Nat) : syn1 L a b a b = fromB L a b := by unfold syn1; rw [if_neg (by omega)]
theorem syn1_row {L : Lg} {a b n x y : Nat} (hb : b = n) (hy : y < n) : syn1 L a b x y = syn1 L (a + 1) 0 x y := by
 unfold syn1
 by_cases h : x < a ∨ (x = a ∧ y < b)
 · rw [if_pos h, if_pos (by omega)]
 · rw [if_neg h, if_neg (by omega)]
theorem syn1_all {L : Lg} {a n x y : Nat} (ha : a = n) (hx : x < n) : syn1 L a 0 x y = pairP L 0 x y := by
 rw [pairP_zero]; unfold syn1; rw [if_pos (by omega)]
end Go.Ren
namespace Go.Proofs.YtbhocahmhmafmaaGreat
open Go.Ren Go.RowKit
set_option linter.unusedVariables false
theorem syn1_put (L : Lg) (a b x y : Nat) : updM (syn1 L a b) a b (synE L a b) x y = syn1 L a (b + 1) x y := by
 unfold updM syn1
 by_cases h : x = a ∧ y = b
 · rw [if_pos h, h.1, h.2, if_pos (by omega)]
 · rw [if_neg h]
   by_cases h1 : x < a ∨ (x = a ∧ y < b)
   · rw [if_pos h1, if_pos (by omega)]
   · rw [if_neg h1, if_neg (by omega)]
set_option maxRecDepth 100000 in
set_option maxHeartbeats 1600000 in
theorem rrsyncs_any (w : World) (ve vp : Value) (V : Nat → Vs) (L : Lg) (h : LogIn w ve vp V L) (hsm : SmL L) (hl : L.ev.length ≤ 64) :
 Calls Tryz.prog 145 #[.agg #[ve, vp]] w (RRPost (relN L) (synB L) w) := by
 have HSM := Lib.hid hsm
 have HN := Lib.hid hl
 have hle : (L.ev.length : Int) ≤ 64 := by omega
 clear hsm hl
 have q1 := Sl.cells_eq h.row
 have q2 := Sl.cells_eq h.prow
 have s1 := Sl.run_st (P := Tryz.prog) h.row
 have s2 := Sl.run_st (P := Tryz.prog) h.prow
 obtain ⟨w0, hw0⟩ : ∃ w0, w0 = w.alloc (.cells #[ve, vp] 57) := ⟨_, rfl⟩
 obtain ⟨g0, hg0⟩ : ∃ g, g = w.heap.size := ⟨_, rfl⟩
 have x0 : Ext w w0 := by rw [hw0]; exact (Mod.refl _ _).alloc _
 have b0 : RLogBox w0 g0 ve vp := ⟨by rw [hw0, hg0]; exact heap_alloc_new _ _⟩
 have HW := Lib.hid (And.intro hw0 (And.intro hg0 x0))
 have KE : Hid (∀ w', Ext w0 w' → LogIn w' ve vp V L ∧ RLogBox w' g0 ve vp) := Lib.hid fun w' x => ⟨h.ext (x0.trans x), b0.ext x⟩
 have HI := Lib.hid (h.row.run_idx (P := Tryz.prog) IRe.und IRe.size .i64)
 have HJ := Lib.hid (h.prow.run_idx (P := Tryz.prog) IP.und IP.size .i64)
 have l1 := h.row.run_len (P := Tryz.prog) IRe.und 3
 have l2 := h.prow.run_len (P := Tryz.prog) IP.und 3
 obtain ⟨c0, c1⟩ := b0.cells
 clear hw0 hg0 x0 b0 h
 go_enter Tryz.func145, Tryz.ntmps145
 go_upto_region 1 with fail
 rw [← HW.out.1, ← HW.out.2.1]
 clear s1 s2
 go_wp2_with fail
 refine (rrfrom_any _ ve vp V L (KE.out _ (Mod.refl _ _)).1 HSM.out HN.out).mono ?_
 rintro e w1 ⟨rv, R, rfl, hlp⟩
 clear c0 c1
 cases hm : mayL L with
 | false =>
  have e0 := relN_no hm
  rw [e0] at hlp
  have HE0 := Lib.hid e0
  have ln := hlp.is.len
  have HLP := Lib.hid hlp
  obtain ⟨c0, c1⟩ := (KE.out _ hlp.x).2.cells
  clear hm hlp e0
  go_wp2_with fail
  go_loopw [4] (fun s wr => s = .int .i64 0 ∧ w1 = wr) (fun _ _ => 0)
  case atStart => exact ⟨rfl, rfl⟩
  case round =>
   obtain ⟨rfl, rfl⟩ := hrel
   go_wp2_with fail
   go_loopw [8] (fun s wr => s = .int .i64 0 ∧ w1 = wr) (fun _ _ => 0)
   case atStart => exact ⟨rfl, rfl⟩
   case round =>
    obtain ⟨rfl, rfl⟩ := hrel
    have l2' := l2
    by_cases hp : 0 < L.pr.length
    · have hp' : (0 : Int) < (L.pr.length : Int) := by omega
      go_wp2_with fail
      go_ret
      have e0 := HE0.out
      rw [e0]
      exact ⟨rv, R, rfl, (HLP.out.congr fun x y hx _ => absurd hx (Nat.not_lt_zero _)).back HW.out.2.2⟩
    · have hp' : ¬ (0 : Int) < (L.pr.length : Int) := by omega
      go_wp2_with fail
      go_ret
      have e0 := HE0.out
      rw [e0]
      exact ⟨rv, R, rfl, (HLP.out.congr fun x y hx _ => absurd hx (Nat.not_lt_zero _)).back HW.out.2.2⟩
 | true =>
  have HM := Lib.hid hm
  have e0 := relN_yes hm
  rw [e0] at hlp
  have HE0 := Lib.hid e0
  clear hm e0
  have ln := hlp.is.len
  have X1 := Lib.hid hlp.x
  have hle2 : (L.pr.length : Int) ≤ 1000 := by have := (mayL_iff.1 HM.out).1.2; omega
  have R0 : Hid (RRLoop w0 rv R L.ev.length (syn1 L 0 0) w1) := Lib.hid (hlp.congr fun a b _ _ => (syn1_zero L a b).symm)
  clear hlp
  go_wp2_with fail
  go_loopw [4] (fun s wr => ∃ a : Nat, a ≤ L.ev.length ∧ s = .int .i64 (a : Int) ∧ RRLoop w0 rv R L.ev.length (syn1 L a 0) wr) (fun s _ => L.ev.length - (intOf s).toNat)
  case atStart => exact ⟨0, Nat.zero_le _, rfl, R0.out⟩
  case round =>
   obtain ⟨a, ha, rfl, hlp⟩ := hrel
   by_cases hlt : a < L.ev.length
   · have hlt' : (a : Int) < (L.ev.length : Int) := by omega
     have RA := Lib.hid hlp
     clear hlp
     go_wp2_with fail
     go_loopw [5] (fun s wr => ∃ b : Nat, b ≤ L.ev.length ∧ s = .int .i64 (b : Int) ∧ RRLoop w0 rv R L.ev.length (syn1 L a b) wr) (fun s _ => L.ev.length - (intOf s).toNat)
     case atStart => exact ⟨0, Nat.zero_le _, rfl, RA.out⟩
     case round =>
      obtain ⟨b, hb, rfl, hlp⟩ := hrel
      have RB := Lib.hid hlp
      have XI := Lib.hid hlp.x
      clear hlp
      by_cases hbl : b < L.ev.length
      · have hbl' : (b : Int) < (L.ev.length : Int) := by omega
        have i0 := HI.out a hlt
        have i1 := HI.out b hbl
        obtain ⟨y, hy⟩ : ∃ e, e = evn L.ev b := ⟨_, rfl⟩
        obtain ⟨v, hv⟩ : ∃ v, v = V b := ⟨_, rfl⟩
        obtain ⟨x, hx⟩ : ∃ e, e = evn L.ev a := ⟨_, rfl⟩
        obtain ⟨u, hu⟩ : ∃ v, v = V a := ⟨_, rfl⟩
        obtain ⟨A1, hA1⟩ : ∃ A, A = at_ ve (a * 10) := ⟨_, rfl⟩
        obtain ⟨A2, hA2⟩ : ∃ A, A = at_ ve (b * 10) := ⟨_, rfl⟩
        rw [← hA1] at i0
        rw [← hA2] at i1
        have KF2 : Hid (∀ w', Ext w0 w' → w'.cell? ⟨g0, 0, none⟩ = some ve ∧ w'.cell? A1 = some (.int .i64 (x).ag) ∧ w'.cell? ⟨A1.block, A1.off + 1, none⟩ = some (.int .i64 (x).kind) ∧ w'.cell? ⟨A1.block, A1.off + 2, none⟩ = some (.bool (x).seq) ∧ w'.cell? ⟨A1.block, A1.off + 3, none⟩ = some (.bool (x).nt) ∧ w'.cell? ⟨A1.block, A1.off + 4, none⟩ = some (.int .i64 (x).blk) ∧ w'.cell? ⟨A1.block, A1.off + 5, none⟩ = some (.int .i64 (x).at_) ∧ w'.cell? ⟨A1.block, A1.off + 6, none⟩ = some (.int .i64 (x).size) ∧ w'.cell? ⟨A1.block, A1.off + 7, none⟩ = some u.r ∧ w'.cell? ⟨A1.block, A1.off + 8, none⟩ = some u.w ∧ w'.cell? ⟨A1.block, A1.off + 9, none⟩ = some u.f ∧ w'.cell? A2 = some (.int .i64 (y).ag) ∧ w'.cell? ⟨A2.block, A2.off + 1, none⟩ = some (.int .i64 (y).kind) ∧ w'.cell? ⟨A2.block, A2.off + 2, none⟩ = some (.bool (y).seq) ∧ w'.cell? ⟨A2.block, A2.off + 3, none⟩ = some (.bool (y).nt) ∧ w'.cell? ⟨A2.block, A2.off + 4, none⟩ = some (.int .i64 (y).blk) ∧ w'.cell? ⟨A2.block, A2.off + 5, none⟩ = some (.int .i64 (y).at_) ∧ w'.cell? ⟨A2.block, A2.off + 6, none⟩ = some (.int .i64 (y).size) ∧ w'.cell? ⟨A2.block, A2.off + 7, none⟩ = some v.r ∧ w'.cell? ⟨A2.block, A2.off + 8, none⟩ = some v.w ∧ w'.cell? ⟨A2.block, A2.off + 9, none⟩ = some v.f) := Lib.hid fun w' z => by
         have h1 := KE.out _ z
         have h2 := h1.1.cells hlt
         have h3 := h1.1.cells hbl
         rw [← hx, ← hu, ← hA1] at h2
         rw [← hy, ← hv, ← hA2] at h3
         obtain ⟨a0, a1, a2, a3, a4, a5, a6, a7, a8, a9⟩ := h2
         exact ⟨h1.2.cells.1, a0, a1, a2, a3, a4, a5, a6, a7, a8, a9, h3⟩
        have KXY : Hid (EvAt w0 x u ∧ EvAt w0 y v) := Lib.hid ⟨by rw [hx, hu]; exact ((KE.out _ (Mod.refl _ _)).1).ev a hlt, by rw [hy, hv]; exact ((KE.out _ (Mod.refl _ _)).1).ev b hbl⟩
        have HNN := Lib.hid (And.intro hx hy)
        clear hy hv hx hu hA1 hA2
        have k1 := (ev_facts KXY.out.1).1
        have k2 := (ev_facts KXY.out.1).2.1
        have k3 := (ev_facts KXY.out.1).2.2.1
        have k4 := (ev_facts KXY.out.2).1
        have k5 := (ev_facts KXY.out.2).2.1
        have k6 := (ev_facts KXY.out.2).2.2.1
        go_upto_region 8 with fail
        go_cut [6, 7] (fun s6 s7 wq => RTwoEv wr x y u v s6 s7 wq)
        case first =>
         have ED : Ext wr (World.drew wr) := Mod.drew (Mod.refl _ _)
         refine wp_region_planT [] (.take 0 0 (.take 1 0 (.take 2 0 (.take 3 0 (.take 4 0 (.take 5 0 (.take 6 0 (.take 7 0 (.take 8 0 (.take 9 0 (.fork (.alt 10 (.fork (.alt 11 (.fork (.alt 12 (.fork (.alt 13 .nil .noalt)) .noalt)) .noalt)) (.alt 11 (.fork (.alt 10 (.fork (.alt 12 (.fork (.alt 13 .nil .noalt)) .noalt)) .noalt)) .noalt))))))))))))) (fun w' => w'.cell? ⟨g0, 0, none⟩ = some ve ∧ w'.cell? A1 = some (.int .i64 (x).ag) ∧ w'.cell? ⟨A1.block, A1.off + 1, none⟩ = some (.int .i64 (x).kind) ∧ w'.cell? ⟨A1.block, A1.off + 2, none⟩ = some (.bool (x).seq) ∧ w'.cell? ⟨A1.block, A1.off + 3, none⟩ = some (.bool (x).nt) ∧ w'.cell? ⟨A1.block, A1.off + 4, none⟩ = some (.int .i64 (x).blk) ∧ w'.cell? ⟨A1.block, A1.off + 5, none⟩ = some (.int .i64 (x).at_) ∧ w'.cell? ⟨A1.block, A1.off + 6, none⟩ = some (.int .i64 (x).size) ∧ w'.cell? ⟨A1.block, A1.off + 7, none⟩ = some u.r ∧ w'.cell? ⟨A1.block, A1.off + 8, none⟩ = some u.w ∧ w'.cell? ⟨A1.block, A1.off + 9, none⟩ = some u.f ∧ w'.cell? A2 = some (.int .i64 (y).ag) ∧ w'.cell? ⟨A2.block, A2.off + 1, none⟩ = some (.int .i64 (y).kind) ∧ w'.cell? ⟨A2.block, A2.off + 2, none⟩ = some (.bool (y).seq) ∧ w'.cell? ⟨A2.block, A2.off + 3, none⟩ = some (.bool (y).nt) ∧ w'.cell? ⟨A2.block, A2.off + 4, none⟩ = some (.int .i64 (y).blk) ∧ w'.cell? ⟨A2.block, A2.off + 5, none⟩ = some (.int .i64 (y).at_) ∧ w'.cell? ⟨A2.block, A2.off + 6, none⟩ = some (.int .i64 (y).size) ∧ w'.cell? ⟨A2.block, A2.off + 7, none⟩ = some v.r ∧ w'.cell? ⟨A2.block, A2.off + 8, none⟩ = some v.w ∧ w'.cell? ⟨A2.block, A2.off + 9, none⟩ = some v.f) (by kernel_rfl) (by kernel_rfl) (by kernel_rfl) (fun _ d _ _ _ h => by cases d <;> exact h) (KF2.out _ (XI.out.trans ED)) ?_
         simp (decide := true) only [planT, getO]
         iterate 10 (refine planT_take (v := ?_) (by rfl) (fun wS hS => ?_) ?_; rotate_left; (focus ((try dsimp only at hS); go_simp; (try with_reducible rfl); done)); (try simp only [Act.put, List.setIfInBounds_toArray, List.set_cons_zero, List.set_cons_succ]))
         refine planT_fork ?_
         refine planT_alloc rfl rfl (fun w => Tryz.zeroValue116 w) rfl (fun g1 w1 y1 hg1 hs1 hb1 => ?_) ?_
         · have E1 : Ext wr w1 := Mod.trans ED y1
           have HG1 := Lib.hid (And.intro hg1 (And.intro hs1 (And.intro hb1 (And.intro E1 (And.intro y1 ED)))))
           clear hg1 hs1 hb1
           refine ⟨fun _ => KF2.out _ (XI.out.trans E1), ?_⟩
           (try simp only [Act.put, List.setIfInBounds_toArray, List.set_cons_zero, List.set_cons_succ])
           refine planT_fork ?_
           refine planT_alloc rfl rfl (fun w => Tryz.zeroValue116 w) rfl (fun g2 w2 y2 hg2 hs2 hb2 => ?_) planT_end
           have E2 : Ext wr w2 := Mod.trans E1 y2
           have HG2 := Lib.hid (And.intro hg2 (And.intro hs2 (And.intro hb2 (And.intro E2 (And.intro y2 E1)))))
           clear hg2 hs2 hb2
           refine ⟨fun _ => KF2.out _ (XI.out.trans E2), ?_⟩
           (try simp only [Act.put, List.setIfInBounds_toArray, List.set_cons_zero, List.set_cons_succ])
           refine planT_fork ?_
           refine planT_store rfl rfl rfl rfl ((Ext.blk y2 HG1.out.2.2.1)) (by kernel_rfl) rfl (evArr_all (Sl.one (KXY.out.1).rd) (Sl.one (KXY.out.1).wr) (Sl.one (KXY.out.1).fr.sl)) (fun w3 m3 hs3 hb3 => ?_) planT_end
           have E3 : Ext wr w3 := Mod.trans' E2 m3 (fun q hq => .inr (by obtain ⟨z1a, z1b, -, z1e, z1y, z1p⟩ := HG1.out; have z1f := z1e.size; have z1g := z1y.size; have z1q := z1p.size; obtain ⟨z2a, z2b, -, z2e, z2y, z2p⟩ := HG2.out; have z2f := z2e.size; have z2g := z2y.size; have z2q := z2p.size; have sy1 := y1.size; have sy2 := y2.size; subst hq; omega))
           have HG3 := Lib.hid (And.intro hs3 (And.intro hb3 m3))
           clear hs3 hb3
           refine ⟨fun _ => KF2.out _ (XI.out.trans E3), ?_⟩
           (try simp only [Act.put])
           refine planT_fork ?_
           refine planT_store rfl rfl rfl rfl ((Mod.blk m3 HG2.out.2.2.1 (by obtain ⟨z1a, z1b, -, z1e, z1y, z1p⟩ := HG1.out; have z1f := z1e.size; have z1g := z1y.size; have z1q := z1p.size; obtain ⟨z2a, z2b, -, z2e, z2y, z2p⟩ := HG2.out; have z2f := z2e.size; have z2g := z2y.size; have z2q := z2p.size; have sy1 := y1.size; have sy2 := y2.size; omega))) (by kernel_rfl) rfl (evArr_all (Sl.one (KXY.out.2).rd) (Sl.one (KXY.out.2).wr) (Sl.one (KXY.out.2).fr.sl)) (fun w4 m4 hs4 hb4 => ?_) planT_end
           have E4 : Ext wr w4 := Mod.trans' E3 m4 (fun q hq => .inr (by obtain ⟨z1a, z1b, -, z1e, z1y, z1p⟩ := HG1.out; have z1f := z1e.size; have z1g := z1y.size; have z1q := z1p.size; obtain ⟨z2a, z2b, -, z2e, z2y, z2p⟩ := HG2.out; have z2f := z2e.size; have z2g := z2y.size; have z2q := z2p.size; have sy1 := y1.size; have sy2 := y2.size; subst hq; omega))
           have HG4 := Lib.hid (And.intro hs4 (And.intro hb4 m4))
           clear hs4 hb4
           refine ⟨fun _ => KF2.out _ (XI.out.trans E4), ?_⟩
           (try simp only [Act.put])
           refine planT_nil ?_
           go_wp2_with fail
           go_meet
           exact ⟨g1, g2, rfl, rfl, ⟨(Mod.blk m4 HG3.out.2.1 (by obtain ⟨z1a, z1b, -, z1e, z1y, z1p⟩ := HG1.out; have z1f := z1e.size; have z1g := z1y.size; have z1q := z1p.size; obtain ⟨z2a, z2b, -, z2e, z2y, z2p⟩ := HG2.out; have z2f := z2e.size; have z2g := z2y.size; have z2q := z2p.size; have sy1 := y1.size; have sy2 := y2.size; omega))⟩, ⟨HG4.out.2.1⟩, E4⟩
         refine planT_alloc rfl rfl (fun w => Tryz.zeroValue116 w) rfl (fun g5 w5 y5 hg5 hs5 hb5 => ?_) planT_end
         have E5 : Ext wr w5 := Mod.trans ED y5
         have HG5 := Lib.hid (And.intro hg5 (And.intro hs5 (And.intro hb5 (And.intro E5 (And.intro y5 ED)))))
         clear hg5 hs5 hb5
         refine ⟨fun _ => KF2.out _ (XI.out.trans E5), ?_⟩
         (try simp only [Act.put, List.setIfInBounds_toArray, List.set_cons_zero, List.set_cons_succ])
         refine planT_fork ?_
         refine planT_alloc rfl rfl (fun w => Tryz.zeroValue116 w) rfl (fun g6 w6 y6 hg6 hs6 hb6 => ?_) planT_end
         have E6 : Ext wr w6 := Mod.trans E5 y6
         have HG6 := Lib.hid (And.intro hg6 (And.intro hs6 (And.intro hb6 (And.intro E6 (And.intro y6 E5)))))
         clear hg6 hs6 hb6
         refine ⟨fun _ => KF2.out _ (XI.out.trans E6), ?_⟩
         (try simp only [Act.put, List.setIfInBounds_toArray, List.set_cons_zero, List.set_cons_succ])
         refine planT_fork ?_
         refine planT_store rfl rfl rfl rfl (HG6.out.2.2.1) (by kernel_rfl) rfl (evArr_all (Sl.one (KXY.out.1).rd) (Sl.one (KXY.out.1).wr) (Sl.one (KXY.out.1).fr.sl)) (fun w7 m7 hs7 hb7 => ?_) planT_end
         have E7 : Ext wr w7 := Mod.trans' E6 m7 (fun q hq => .inr (by obtain ⟨z5a, z5b, -, z5e, z5y, z5p⟩ := HG5.out; have z5f := z5e.size; have z5g := z5y.size; have z5q := z5p.size; obtain ⟨z6a, z6b, -, z6e, z6y, z6p⟩ := HG6.out; have z6f := z6e.size; have z6g := z6y.size; have z6q := z6p.size; have sy5 := y5.size; have sy6 := y6.size; subst hq; omega))
         have HG7 := Lib.hid (And.intro hs7 (And.intro hb7 m7))
         clear hs7 hb7
         refine ⟨fun _ => KF2.out _ (XI.out.trans E7), ?_⟩
         (try simp only [Act.put])
         refine planT_fork ?_
         refine planT_store rfl rfl rfl rfl ((Mod.blk m7 (Ext.blk y6 HG5.out.2.2.1) (by obtain ⟨z5a, z5b, -, z5e, z5y, z5p⟩ := HG5.out; have z5f := z5e.size; have z5g := z5y.size; have z5q := z5p.size; obtain ⟨z6a, z6b, -, z6e, z6y, z6p⟩ := HG6.out; have z6f := z6e.size; have z6g := z6y.size; have z6q := z6p.size; have sy5 := y5.size; have sy6 := y6.size; omega))) (by kernel_rfl) rfl (evArr_all (Sl.one (KXY.out.2).rd) (Sl.one (KXY.out.2).wr) (Sl.one (KXY.out.2).fr.sl)) (fun w8 m8 hs8 hb8 => ?_) planT_end
         have E8 : Ext wr w8 := Mod.trans' E7 m8 (fun q hq => .inr (by obtain ⟨z5a, z5b, -, z5e, z5y, z5p⟩ := HG5.out; have z5f := z5e.size; have z5g := z5y.size; have z5q := z5p.size; obtain ⟨z6a, z6b, -, z6e, z6y, z6p⟩ := HG6.out; have z6f := z6e.size; have z6g := z6y.size; have z6q := z6p.size; have sy5 := y5.size; have sy6 := y6.size; subst hq; omega))
         have HG8 := Lib.hid (And.intro hs8 (And.intro hb8 m8))
         clear hs8 hb8
         refine ⟨fun _ => KF2.out _ (XI.out.trans E8), ?_⟩
         (try simp only [Act.put])
         refine planT_nil ?_
         go_wp2_with fail
         go_meet
         exact ⟨g6, g5, rfl, rfl, ⟨(Mod.blk m8 HG7.out.2.1 (by obtain ⟨z5a, z5b, -, z5e, z5y, z5p⟩ := HG5.out; have z5f := z5e.size; have z5g := z5y.size; have z5q := z5p.size; obtain ⟨z6a, z6b, -, z6e, z6y, z6p⟩ := HG6.out; have z6f := z6e.size; have z6g := z6y.size; have z6q := z6p.size; have sy5 := y5.size; have sy6 := y6.size; omega))⟩, ⟨HG8.out.2.1⟩, E8⟩
        case rest =>
         obtain ⟨b1, b2, rfl, rfl, hc, KB⟩ := hcut.keep (KXY.out.1.ext XI.out) (KXY.out.2.ext XI.out)
         have HLP := Lib.hid (RB.out.ext hc)
         obtain ⟨S1, hS1⟩ : ∃ S, S = x.seq := ⟨_, rfl⟩
         obtain ⟨S2, hS2⟩ : ∃ S, S = y.seq := ⟨_, rfl⟩
         obtain ⟨Q, hQ⟩ : ∃ Q, Q = evEq x y := ⟨_, rfl⟩
         obtain ⟨Q0, hQ0⟩ : ∃ Q, Q = fromB L a b := ⟨_, rfl⟩
         have HQ : Hid (evEq ⟨x.ag, x.kind, true, x.nt, x.blk, x.at_, x.size, x.rd, x.wr, x.fr⟩ ⟨y.ag, y.kind, true, y.nt, y.blk, y.at_, y.size, y.rd, y.wr, y.fr⟩ = Q) := Lib.hid hQ.symm
         have HLAW : Hid ((Q0 && S1 && S2 && Q) = synE L a b) := Lib.hid (by unfold synE; rw [hQ0, hS1, hS2, hQ, HNN.out.1, HNN.out.2])
         have HX : Hid (∀ x y, updM (syn1 L a b) a b (synE L a b) x y = syn1 L a (b + 1) x y) := Lib.hid (syn1_put L a b)
         rw [← hS1, ← hS2] at KB
         have KG : Hid (∀ w', Ext wc w' → (w'.cell? (at_ rv a) = some (R a) ∧ w'.cell? (at_ (R a) b) = some (.bool Q0) ∧ w'.cell? ⟨b1, 0, none⟩ = some (.int .i64 (x).ag) ∧ w'.cell? ⟨b1, 1, none⟩ = some (.int .i64 (x).kind) ∧ w'.cell? ⟨b1, 2, none⟩ = some (.bool S1) ∧ w'.cell? ⟨b1, 3, none⟩ = some (.bool (x).nt) ∧ w'.cell? ⟨b1, 4, none⟩ = some (.int .i64 (x).blk) ∧ w'.cell? ⟨b1, 5, none⟩ = some (.int .i64 (x).at_) ∧ w'.cell? ⟨b1, 6, none⟩ = some (.int .i64 (x).size) ∧ w'.cell? ⟨b1, 7, none⟩ = some u.r ∧ w'.cell? ⟨b1, 8, none⟩ = some u.w ∧ w'.cell? ⟨b1, 9, none⟩ = some u.f ∧ w'.cell? ⟨b2, 0, none⟩ = some (.int .i64 (y).ag) ∧ w'.cell? ⟨b2, 1, none⟩ = some (.int .i64 (y).kind) ∧ w'.cell? ⟨b2, 2, none⟩ = some (.bool S2) ∧ w'.cell? ⟨b2, 3, none⟩ = some (.bool (y).nt) ∧ w'.cell? ⟨b2, 4, none⟩ = some (.int .i64 (y).blk) ∧ w'.cell? ⟨b2, 5, none⟩ = some (.int .i64 (y).at_) ∧ w'.cell? ⟨b2, 6, none⟩ = some (.int .i64 (y).size) ∧ w'.cell? ⟨b2, 7, none⟩ = some v.r ∧ w'.cell? ⟨b2, 8, none⟩ = some v.w ∧ w'.cell? ⟨b2, 9, none⟩ = some v.f) ∧ w'.frozen? (at_ (R a) b) = false) := Lib.hid fun w' z => by
          obtain ⟨f1, f2, f3⟩ := (HLP.out.ext z).is.facts hlt hbl
          rw [syn1_at, ← hQ0] at f2
          have h4 := KB.out _ z
          obtain ⟨⟨d0, d1, d2, d3, d4, d5, d6, d7, d8, d9⟩, h5, -⟩ := h4
          exact ⟨⟨f1, f2, d0, d1, d2, d3, d4, d5, d6, d7, d8, d9, h5⟩, f3⟩
         obtain ⟨j1, j2⟩ := HLP.out.is.idx hlt hbl
         clear hS1 hS2 hQ hQ0 hcut hc i0 i1
         go_upto_region 9 with fail
         cases Q0 with
         | false =>
          have f0 := (KG.out _ (Mod.refl _ _)).2
          have c0 := (KG.out _ (Mod.refl _ _)).1.2.1
          refine wp_region_planL [26] [(0, 0), (1, 0), (2, 0), (3, 0), (4, 0), (5, 0), (6, 0), (7, 0), (8, 0), (9, 0), (10, 0), (11, 0), (12, 0), (13, 0), (14, 0), (15, 0), (16, 0), (17, 0), (18, 0), (19, 0), (20, 0), (21, 0), (22, 0), (23, 1), (24, 0), (25, 0), (26, 2)] (fun w' => w'.cell? (at_ rv a) = some (R a) ∧ w'.cell? (at_ (R a) b) = some (.bool false) ∧ w'.cell? ⟨b1, 0, none⟩ = some (.int .i64 (x).ag) ∧ w'.cell? ⟨b1, 1, none⟩ = some (.int .i64 (x).kind) ∧ w'.cell? ⟨b1, 2, none⟩ = some (.bool S1) ∧ w'.cell? ⟨b1, 3, none⟩ = some (.bool (x).nt) ∧ w'.cell? ⟨b1, 4, none⟩ = some (.int .i64 (x).blk) ∧ w'.cell? ⟨b1, 5, none⟩ = some (.int .i64 (x).at_) ∧ w'.cell? ⟨b1, 6, none⟩ = some (.int .i64 (x).size) ∧ w'.cell? ⟨b1, 7, none⟩ = some u.r ∧ w'.cell? ⟨b1, 8, none⟩ = some u.w ∧ w'.cell? ⟨b1, 9, none⟩ = some u.f ∧ w'.cell? ⟨b2, 0, none⟩ = some (.int .i64 (y).ag) ∧ w'.cell? ⟨b2, 1, none⟩ = some (.int .i64 (y).kind) ∧ w'.cell? ⟨b2, 2, none⟩ = some (.bool S2) ∧ w'.cell? ⟨b2, 3, none⟩ = some (.bool (y).nt) ∧ w'.cell? ⟨b2, 4, none⟩ = some (.int .i64 (y).blk) ∧ w'.cell? ⟨b2, 5, none⟩ = some (.int .i64 (y).at_) ∧ w'.cell? ⟨b2, 6, none⟩ = some (.int .i64 (y).size) ∧ w'.cell? ⟨b2, 7, none⟩ = some v.r ∧ w'.cell? ⟨b2, 8, none⟩ = some v.w ∧ w'.cell? ⟨b2, 9, none⟩ = some v.f) (by kernel_rfl) (by kernel_rfl) (by kernel_rfl) (fun _ d _ _ _ h => by cases d <;> exact h) ((KG.out _ (Mod.drew (Mod.refl _ _))).1) ?_
          simp only [planLL, getO]
          iterate 13 (refine planL_take (v := ?_) (by rfl) (fun wS hS => ?_) ?_; rotate_left; (focus ((try dsimp only at hS); go_simp; (try with_reducible rfl); done)); (try simp only [Act.put, List.setIfInBounds_toArray, List.set_cons_zero, List.set_cons_succ]))
          iterate 2 (refine planL_skip (by rfl) ?_; (try simp only [Act.put, List.setIfInBounds_toArray, List.set_cons_zero, List.set_cons_succ]))
          iterate 2 (refine planL_take (v := ?_) (by rfl) (fun wS hS => ?_) ?_; rotate_left; (focus ((try dsimp only at hS); go_simp; (try with_reducible rfl); done)); (try simp only [Act.put, List.setIfInBounds_toArray, List.set_cons_zero, List.set_cons_succ]))
          iterate 2 (refine planL_skip (by rfl) ?_; (try simp only [Act.put, List.setIfInBounds_toArray, List.set_cons_zero, List.set_cons_succ]))
          iterate 2 (refine planL_take (v := ?_) (by rfl) (fun wS hS => ?_) ?_; rotate_left; (focus ((try dsimp only at hS); go_simp; (try with_reducible rfl); done)); (try simp only [Act.put, List.setIfInBounds_toArray, List.set_cons_zero, List.set_cons_succ]))
          iterate 2 (refine planL_skip (by rfl) ?_; (try simp only [Act.put, List.setIfInBounds_toArray, List.set_cons_zero, List.set_cons_succ]))
          (refine planL_skip1 (by rfl) ?_; (try simp only [Act.put, List.setIfInBounds_toArray, List.set_cons_zero, List.set_cons_succ]))
          iterate 2 (refine planL_take (v := ?_) (by rfl) (fun wS hS => ?_) ?_; rotate_left; (focus ((try dsimp only at hS); go_simp; (try with_reducible rfl); done)); (try simp only [Act.put, List.setIfInBounds_toArray, List.set_cons_zero, List.set_cons_succ]))
          refine planL_late (fun K hK => ?_)
          go_simp
          refine hK.out _ _ ?_
          clear hK K
          (try simp only [Act.put, List.setIfInBounds_toArray, List.set_cons_zero, List.set_cons_succ])
          refine planL_nil ?_
          go_wp2_with fail
          go_roundw
          case rel => exact ⟨b + 1, by omega, by go_num, ((HLP.out.put hlt hbl (false)).ext (Mod.drew (Mod.refl _ _))).congr fun x y _ _ => by have := HX.out x y; rw [← this, ← HLAW.out]; simp⟩
          case measure => simp [intOf]; omega
         | true =>
          cases S1 with
          | false =>
           have f0 := (KG.out _ (Mod.refl _ _)).2
           have c0 := (KG.out _ (Mod.refl _ _)).1.2.1
           refine wp_region_planL [26] [(0, 0), (1, 0), (2, 0), (3, 0), (4, 0), (5, 0), (6, 0), (7, 0), (8, 0), (9, 0), (10, 0), (11, 0), (12, 0), (13, 0), (14, 0), (15, 0), (16, 0), (17, 0), (18, 0), (19, 0), (20, 0), (21, 0), (22, 0), (23, 1), (24, 0), (25, 0), (26, 2)] (fun w' => w'.cell? (at_ rv a) = some (R a) ∧ w'.cell? (at_ (R a) b) = some (.bool true) ∧ w'.cell? ⟨b1, 0, none⟩ = some (.int .i64 (x).ag) ∧ w'.cell? ⟨b1, 1, none⟩ = some (.int .i64 (x).kind) ∧ w'.cell? ⟨b1, 2, none⟩ = some (.bool false) ∧ w'.cell? ⟨b1, 3, none⟩ = some (.bool (x).nt) ∧ w'.cell? ⟨b1, 4, none⟩ = some (.int .i64 (x).blk) ∧ w'.cell? ⟨b1, 5, none⟩ = some (.int .i64 (x).at_) ∧ w'.cell? ⟨b1, 6, none⟩ = some (.int .i64 (x).size) ∧ w'.cell? ⟨b1, 7, none⟩ = some u.r ∧ w'.cell? ⟨b1, 8, none⟩ = some u.w ∧ w'.cell? ⟨b1, 9, none⟩ = some u.f ∧ w'.cell? ⟨b2, 0, none⟩ = some (.int .i64 (y).ag) ∧ w'.cell? ⟨b2, 1, none⟩ = some (.int .i64 (y).kind) ∧ w'.cell? ⟨b2, 2, none⟩ = some (.bool S2) ∧ w'.cell? ⟨b2, 3, none⟩ = some (.bool (y).nt) ∧ w'.cell? ⟨b2, 4, none⟩ = some (.int .i64 (y).blk) ∧ w'.cell? ⟨b2, 5, none⟩ = some (.int .i64 (y).at_) ∧ w'.cell? ⟨b2, 6, none⟩ = some (.int .i64 (y).size) ∧ w'.cell? ⟨b2, 7, none⟩ = some v.r ∧ w'.cell? ⟨b2, 8, none⟩ = some v.w ∧ w'.cell? ⟨b2, 9, none⟩ = some v.f) (by kernel_rfl) (by kernel_rfl) (by kernel_rfl) (fun _ d _ _ _ h => by cases d <;> exact h) ((KG.out _ (Mod.drew (Mod.refl _ _))).1) ?_
           simp only [planLL, getO]
           iterate 17 (refine planL_take (v := ?_) (by rfl) (fun wS hS => ?_) ?_; rotate_left; (focus ((try dsimp only at hS); go_simp; (try with_reducible rfl); done)); (try simp only [Act.put, List.setIfInBounds_toArray, List.set_cons_zero, List.set_cons_succ]))
           iterate 2 (refine planL_skip (by rfl) ?_; (try simp only [Act.put, List.setIfInBounds_toArray, List.set_cons_zero, List.set_cons_succ]))
           iterate 2 (refine planL_take (v := ?_) (by rfl) (fun wS hS => ?_) ?_; rotate_left; (focus ((try dsimp only at hS); go_simp; (try with_reducible rfl); done)); (try simp only [Act.put, List.setIfInBounds_toArray, List.set_cons_zero, List.set_cons_succ]))
           iterate 2 (refine planL_skip (by rfl) ?_; (try simp only [Act.put, List.setIfInBounds_toArray, List.set_cons_zero, List.set_cons_succ]))
           (refine planL_skip1 (by rfl) ?_; (try simp only [Act.put, List.setIfInBounds_toArray, List.set_cons_zero, List.set_cons_succ]))
           iterate 2 (refine planL_take (v := ?_) (by rfl) (fun wS hS => ?_) ?_; rotate_left; (focus ((try dsimp only at hS); go_simp; (try with_reducible rfl); done)); (try simp only [Act.put, List.setIfInBounds_toArray, List.set_cons_zero, List.set_cons_succ]))
           refine planL_late (fun K hK => ?_)
           go_simp
           refine hK.out _ _ ?_
           clear hK K
           (try simp only [Act.put, List.setIfInBounds_toArray, List.set_cons_zero, List.set_cons_succ])
           refine planL_nil ?_
           go_wp2_with fail
           go_roundw
           case rel => exact ⟨b + 1, by omega, by go_num, ((HLP.out.put hlt hbl (false)).ext (Mod.drew (Mod.refl _ _))).congr fun x y _ _ => by have := HX.out x y; rw [← this, ← HLAW.out]; simp⟩
           case measure => simp [intOf]; omega
          | true =>
           cases S2 with
           | false =>
            have f0 := (KG.out _ (Mod.refl _ _)).2
            have c0 := (KG.out _ (Mod.refl _ _)).1.2.1
            refine wp_region_planL [26] [(0, 0), (1, 0), (2, 0), (3, 0), (4, 0), (5, 0), (6, 0), (7, 0), (8, 0), (9, 0), (10, 0), (11, 0), (12, 0), (13, 0), (14, 0), (15, 0), (16, 0), (17, 0), (18, 0), (19, 0), (20, 0), (21, 0), (22, 0), (23, 1), (24, 0), (25, 0), (26, 2)] (fun w' => w'.cell? (at_ rv a) = some (R a) ∧ w'.cell? (at_ (R a) b) = some (.bool true) ∧ w'.cell? ⟨b1, 0, none⟩ = some (.int .i64 (x).ag) ∧ w'.cell? ⟨b1, 1, none⟩ = some (.int .i64 (x).kind) ∧ w'.cell? ⟨b1, 2, none⟩ = some (.bool true) ∧ w'.cell? ⟨b1, 3, none⟩ = some (.bool (x).nt) ∧ w'.cell? ⟨b1, 4, none⟩ = some (.int .i64 (x).blk) ∧ w'.cell? ⟨b1, 5, none⟩ = some (.int .i64 (x).at_) ∧ w'.cell? ⟨b1, 6, none⟩ = some (.int .i64 (x).size) ∧ w'.cell? ⟨b1, 7, none⟩ = some u.r ∧ w'.cell? ⟨b1, 8, none⟩ = some u.w ∧ w'.cell? ⟨b1, 9, none⟩ = some u.f ∧ w'.cell? ⟨b2, 0, none⟩ = some (.int .i64 (y).ag) ∧ w'.cell? ⟨b2, 1, none⟩ = some (.int .i64 (y).kind) ∧ w'.cell? ⟨b2, 2, none⟩ = some (.bool false) ∧ w'.cell? ⟨b2, 3, none⟩ = some (.bool (y).nt) ∧ w'.cell? ⟨b2, 4, none⟩ = some (.int .i64 (y).blk) ∧ w'.cell? ⟨b2, 5, none⟩ = some (.int .i64 (y).at_) ∧ w'.cell? ⟨b2, 6, none⟩ = some (.int .i64 (y).size) ∧ w'.cell? ⟨b2, 7, none⟩ = some v.r ∧ w'.cell? ⟨b2, 8, none⟩ = some v.w ∧ w'.cell? ⟨b2, 9, none⟩ = some v.f) (by kernel_rfl) (by kernel_rfl) (by kernel_rfl) (fun _ d _ _ _ h => by cases d <;> exact h) ((KG.out _ (Mod.drew (Mod.refl _ _))).1) ?_
            simp only [planLL, getO]
            iterate 21 (refine planL_take (v := ?_) (by rfl) (fun wS hS => ?_) ?_; rotate_left; (focus ((try dsimp only at hS); go_simp; (try with_reducible rfl); done)); (try simp only [Act.put, List.setIfInBounds_toArray, List.set_cons_zero, List.set_cons_succ]))
            iterate 2 (refine planL_skip (by rfl) ?_; (try simp only [Act.put, List.setIfInBounds_toArray, List.set_cons_zero, List.set_cons_succ]))
            (refine planL_skip1 (by rfl) ?_; (try simp only [Act.put, List.setIfInBounds_toArray, List.set_cons_zero, List.set_cons_succ]))
            iterate 2 (refine planL_take (v := ?_) (by rfl) (fun wS hS => ?_) ?_; rotate_left; (focus ((try dsimp only at hS); go_simp; (try with_reducible rfl); done)); (try simp only [Act.put, List.setIfInBounds_toArray, List.set_cons_zero, List.set_cons_succ]))
            refine planL_late (fun K hK => ?_)
            go_simp
            refine hK.out _ _ ?_
            clear hK K
            (try simp only [Act.put, List.setIfInBounds_toArray, List.set_cons_zero, List.set_cons_succ])
            refine planL_nil ?_
            go_wp2_with fail
            go_roundw
            case rel => exact ⟨b + 1, by omega, by go_num, ((HLP.out.put hlt hbl (false)).ext (Mod.drew (Mod.refl _ _))).congr fun x y _ _ => by have := HX.out x y; rw [← this, ← HLAW.out]; simp⟩
            case measure => simp [intOf]; omega
           | true =>
            refine wp_region_planL [26] [(0, 0), (1, 0), (2, 0), (3, 0), (4, 0), (5, 0), (6, 0), (7, 0), (8, 0), (9, 0), (10, 0), (11, 0), (12, 0), (13, 0), (14, 0), (15, 0), (16, 0), (17, 0), (18, 0), (19, 0), (20, 0), (21, 0), (22, 0), (23, 1), (24, 0), (25, 0), (26, 2)] (fun w' => w'.cell? (at_ rv a) = some (R a) ∧ w'.cell? (at_ (R a) b) = some (.bool true) ∧ w'.cell? ⟨b1, 0, none⟩ = some (.int .i64 (x).ag) ∧ w'.cell? ⟨b1, 1, none⟩ = some (.int .i64 (x).kind) ∧ w'.cell? ⟨b1, 2, none⟩ = some (.bool true) ∧ w'.cell? ⟨b1, 3, none⟩ = some (.bool (x).nt) ∧ w'.cell? ⟨b1, 4, none⟩ = some (.int .i64 (x).blk) ∧ w'.cell? ⟨b1, 5, none⟩ = some (.int .i64 (x).at_) ∧ w'.cell? ⟨b1, 6, none⟩ = some (.int .i64 (x).size) ∧ w'.cell? ⟨b1, 7, none⟩ = some u.r ∧ w'.cell? ⟨b1, 8, none⟩ = some u.w ∧ w'.cell? ⟨b1, 9, none⟩ = some u.f ∧ w'.cell? ⟨b2, 0, none⟩ = some (.int .i64 (y).ag) ∧ w'.cell? ⟨b2, 1, none⟩ = some (.int .i64 (y).kind) ∧ w'.cell? ⟨b2, 2, none⟩ = some (.bool true) ∧ w'.cell? ⟨b2, 3, none⟩ = some (.bool (y).nt) ∧ w'.cell? ⟨b2, 4, none⟩ = some (.int .i64 (y).blk) ∧ w'.cell? ⟨b2, 5, none⟩ = some (.int .i64 (y).at_) ∧ w'.cell? ⟨b2, 6, none⟩ = some (.int .i64 (y).size) ∧ w'.cell? ⟨b2, 7, none⟩ = some v.r ∧ w'.cell? ⟨b2, 8, none⟩ = some v.w ∧ w'.cell? ⟨b2, 9, none⟩ = some v.f) (by kernel_rfl) (by kernel_rfl) (by kernel_rfl) (fun _ d _ _ _ h => by cases d <;> exact h) ((KG.out _ (Mod.drew (Mod.refl _ _))).1) ?_
            simp only [planLL, getO]
            iterate 23 (refine planL_take (v := ?_) (by rfl) (fun wS hS => ?_) ?_; rotate_left; (focus ((try dsimp only at hS); go_simp; (try with_reducible rfl); done)); (try simp only [Act.put, List.setIfInBounds_toArray, List.set_cons_zero, List.set_cons_succ]))
            refine planL_call (fun K hK => ?_)
            go_simp
            go_at_call 143; refine (requal_any _ ⟨x.ag, x.kind, true, x.nt, x.blk, x.at_, x.size, x.rd, x.wr, x.fr⟩ ⟨y.ag, y.kind, true, y.nt, y.blk, y.at_, y.size, y.rd, y.wr, y.fr⟩ u v (KB.out _ (Mod.drew (Mod.refl _ _))).2.2.1 (KB.out _ (Mod.drew (Mod.refl _ _))).2.2.2).mono ?_; rintro en w6 ⟨rfl, y6⟩; have E6 : Ext wc w6 := Mod.trans (Mod.drew (Mod.refl _ _)) y6; have c6 := (KG.out _ E6).1.2.1; have f6 := (KG.out _ E6).2; rw [HQ.out]
            refine hK.out _ _ ((KG.out _ E6).1) ?_
            clear hK K
            (try simp only [Act.put, List.setIfInBounds_toArray, List.set_cons_zero, List.set_cons_succ])
            iterate 2 (refine planL_take (v := ?_) (by rfl) (fun wS hS => ?_) ?_; rotate_left; (focus ((try dsimp only at hS); go_simp; (try with_reducible rfl); done)); (try simp only [Act.put, List.setIfInBounds_toArray, List.set_cons_zero, List.set_cons_succ]))
            refine planL_late (fun K hK => ?_)
            go_simp
            refine hK.out _ _ ?_
            clear hK K
            (try simp only [Act.put, List.setIfInBounds_toArray, List.set_cons_zero, List.set_cons_succ])
            refine planL_nil ?_
            go_wp2_with fail
            go_roundw
            case rel => exact ⟨b + 1, by omega, by go_num, (((HLP.out.ext E6).put hlt hbl (Q))).congr fun x y _ _ => by have := HX.out x y; rw [← this, ← HLAW.out]; simp⟩
            case measure => simp [intOf]; omega
      · have hbl' : ¬ (b : Int) < (L.ev.length : Int) := by omega
        have HK : Hid (b = L.ev.length) := Lib.hid (by omega)
        go_wp2_with fail
        go_roundw
        case rel => exact ⟨a + 1, by omega, by go_num, RB.out.congr fun x y _ hy => syn1_row HK.out hy⟩
        case measure => simp [intOf]; omega
   · have hlt' : ¬ (a : Int) < (L.ev.length : Int) := by omega
     have HK : Hid (a = L.ev.length) := Lib.hid (by omega)
     have R7 : Hid (RRLoop w0 rv R L.ev.length (pairP L 0) wr) := Lib.hid (hlp.congr fun x y hx _ => syn1_all HK.out hx)
     clear hlp
     go_wp2_with fail
     go_loopw [8] (fun s wr => ∃ i : Nat, i ≤ L.pr.length ∧ s = .int .i64 (i : Int) ∧ RRLoop w0 rv R L.ev.length (pairP L i) wr) (fun s _ => L.pr.length - (intOf s).toNat)
     case atStart => exact ⟨0, Nat.zero_le _, rfl, R7.out⟩
     case round =>
      obtain ⟨i, hi, rfl, hlp⟩ := hrel
      obtain ⟨c0, c1⟩ := (KE.out _ hlp.x).2.cells
      have X9 := Lib.hid hlp.x
      by_cases hil : i < L.pr.length
      · have hil' : (i : Int) < (L.pr.length : Int) := by omega
        have i0 := HJ.out i hil
        obtain ⟨pa, pb, hpe, hp1, hp2⟩ := may_pair HM.out hil
        obtain ⟨A, hA⟩ : ∃ A, A = at_ vp (i * 2) := ⟨_, rfl⟩
        obtain ⟨Q0, hQ0⟩ : ∃ Q, Q = pairP L i pa pb := ⟨_, rfl⟩
        have hpa : pa < L.ev.length := by omega
        have hpos : (0 : Int) < (L.ev.length : Int) := by omega
        have KG : Hid (∀ w', Ext wr w' → (w'.cell? ⟨g0, 1, none⟩ = some vp ∧ w'.cell? A = some (.int .i64 (pa : Int)) ∧ w'.cell? ⟨A.block, A.off + 1, none⟩ = some (.int .i64 (pb : Int)) ∧ w'.cell? (at_ rv pa) = some (R pa) ∧ w'.cell? (at_ (R pa) pb) = some (.bool Q0)) ∧ w'.frozen? (at_ (R pa) pb) = false) := Lib.hid fun w' z => by
         have h1 := KE.out _ (hlp.x.trans z)
         have h2 := h1.1.pcells hil
         rw [hpe, ← hA] at h2
         obtain ⟨f1, f2, f3⟩ := (hlp.ext z).is.facts hpa hp2
         rw [← hQ0] at f2
         exact ⟨⟨h1.2.cells.2, h2.1, h2.2, f1, f2⟩, f3⟩
        rw [← hA] at i0
        obtain ⟨j1, j2⟩ := hlp.is.idx hpa hp2
        have HPE := Lib.hid hpe
        have HLP := Lib.hid (hlp.put hpa hp2 true)
        have f0 := (KG.out _ (Mod.refl _ _)).2
        have e0 := (KG.out _ (Mod.refl _ _)).1.2.2.2.2
        clear hlp hA hpe hp1 hp2 hQ0 hpa
        go_upto_region 13 with fail
        clear c0 c1
        refine wp_region_planL [16] [(0, 0), (1, 0), (2, 0), (3, 0), (4, 0), (5, 0), (6, 0), (7, 0), (8, 0), (9, 0), (10, 0), (11, 0), (12, 0), (13, 0), (14, 0), (15, 0), (16, 2)] (fun w' => w'.cell? ⟨g0, 1, none⟩ = some vp ∧ w'.cell? A = some (.int .i64 (pa : Int)) ∧ w'.cell? ⟨A.block, A.off + 1, none⟩ = some (.int .i64 (pb : Int)) ∧ w'.cell? (at_ rv pa) = some (R pa) ∧ w'.cell? (at_ (R pa) pb) = some (.bool Q0)) (by kernel_rfl) (by kernel_rfl) (by kernel_rfl) (fun _ d _ _ _ h => by cases d <;> exact h) ((KG.out _ (Mod.drew (Mod.refl _ _))).1) ?_
        simp only [planLL, getO]
        iterate 16 (refine planL_take (v := ?_) (by rfl) (fun wS hS => ?_) ?_; rotate_left; (focus ((try dsimp only at hS); go_simp; (try with_reducible rfl); done)); (try simp only [Act.put, List.setIfInBounds_toArray, List.set_cons_zero, List.set_cons_succ]))
        refine planL_late (fun K hK => ?_)
        go_simp
        refine hK.out _ _ ?_
        clear hK K
        (try simp only [Act.put, List.setIfInBounds_toArray, List.set_cons_zero, List.set_cons_succ])
        refine planL_nil ?_
        go_wp2_with fail
        go_roundw
        case rel => exact ⟨i + 1, by omega, by go_num, (HLP.out.ext (Mod.drew (Mod.refl _ _))).congr fun x y _ _ => (updM_put _ _ _ _ _).trans (pairP_put hil HPE.out x y)⟩
        case measure => simp [intOf]; omega
      · have hil' : ¬ (i : Int) < (L.pr.length : Int) := by omega
        have HK2 : Hid (i = L.pr.length) := Lib.hid (by omega)
        have HLP := Lib.hid hlp
        clear hlp
        go_wp2_with fail
        go_ret
        have e0 := HE0.out
        rw [e0]
        exact ⟨rv, R, rfl, (HLP.out.congr fun x y _ _ => pairP_all HK2.out x y).back HW.out.2.2⟩
end Go.Proofs.YtbhocahmhmafmaaGreat
