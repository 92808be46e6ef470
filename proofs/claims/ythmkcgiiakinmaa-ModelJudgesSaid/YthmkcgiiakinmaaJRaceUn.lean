/-
  The contracts of race.unordered, race.two, race.Conflict. No condition.
-/
import Derived.Test.YthmkcgiiakinmaaJRaceLaw
namespace Go.Proofs.Ythmkcgiiakinmaa
open Go.Ren Go.RowKit
set_option linter.unusedVariables false

set_option maxRecDepth 100000 in
set_option maxHeartbeats 1600000 in
theorem unord_any (w : World) (ve vp : Value) (V : Nat → Vs) (L : Lg) (h : LogIn w ve vp V L) (p : Value) (hr : RelIs w p L.ev.length (hbB L)) (a b : Nat) (ha : a < L.ev.length) (hb : b < L.ev.length) :
    Calls Try.prog 57 #[.agg #[ve, vp], p, .int .i64 (a : Int), .int .i64 (b : Int)] w (FPost (unB L a b) w) := by
  have q1 := Sl.cells_eq h.row
  have q2 := Sl.cells_eq h.prow
  have s1 := Sl.run_st (P := Try.prog) h.row
  have s2 := Sl.run_st (P := Try.prog) h.prow
  have i0 := h.row.run_idx (P := Try.prog) IEv.und IEv.size .i64 a ha
  have i1 := h.row.run_idx (P := Try.prog) IEv.und IEv.size .i64 b hb
  obtain ⟨B, hB⟩ : ∃ B, B = unB L a b := ⟨_, rfl⟩
  rw [← hB]
  obtain ⟨x, hx⟩ : ∃ e, e = evn L.ev a := ⟨_, rfl⟩
  obtain ⟨u, hu⟩ : ∃ v, v = V a := ⟨_, rfl⟩
  obtain ⟨y, hy⟩ : ∃ e, e = evn L.ev b := ⟨_, rfl⟩
  obtain ⟨v, hv⟩ : ∃ v, v = V b := ⟨_, rfl⟩
  obtain ⟨A1, hA1⟩ : ∃ A, A = at_ ve (a * 10) := ⟨_, rfl⟩
  obtain ⟨A2, hA2⟩ : ∃ A, A = at_ ve (b * 10) := ⟨_, rfl⟩
  rw [← hA1] at i0
  rw [← hA2] at i1
  obtain ⟨w0, hw0⟩ : ∃ w0, w0 = w.alloc (.cells #[ve, vp] 25) := ⟨_, rfl⟩
  obtain ⟨g0, hg0⟩ : ∃ g, g = w.heap.size := ⟨_, rfl⟩
  have x0 : Ext w w0 := by rw [hw0]; exact (Mod.refl _ _).alloc _
  have b0 : LogBox w0 g0 ve vp := ⟨by rw [hw0, hg0]; exact heap_alloc_new _ _⟩
  have HW := Lib.hid (And.intro hw0 (And.intro hg0 x0))
  have KXY : Hid (EvAt w0 x u ∧ EvAt w0 y v) := Lib.hid ⟨by rw [hx, hu]; exact (h.ext x0).ev a ha, by rw [hy, hv]; exact (h.ext x0).ev b hb⟩
  have KF2 : Hid (∀ w', Ext w0 w' → w'.cell? ⟨g0, 0, none⟩ = some ve ∧ w'.cell? A1 = some (.int .i64 (x).ag) ∧ w'.cell? ⟨A1.block, A1.off + 1, none⟩ = some (.int .i64 (x).kind) ∧ w'.cell? ⟨A1.block, A1.off + 2, none⟩ = some (.bool (x).seq) ∧ w'.cell? ⟨A1.block, A1.off + 3, none⟩ = some (.bool (x).nt) ∧ w'.cell? ⟨A1.block, A1.off + 4, none⟩ = some (.int .i64 (x).blk) ∧ w'.cell? ⟨A1.block, A1.off + 5, none⟩ = some (.int .i64 (x).at_) ∧ w'.cell? ⟨A1.block, A1.off + 6, none⟩ = some (.int .i64 (x).size) ∧ w'.cell? ⟨A1.block, A1.off + 7, none⟩ = some u.r ∧ w'.cell? ⟨A1.block, A1.off + 8, none⟩ = some u.w ∧ w'.cell? ⟨A1.block, A1.off + 9, none⟩ = some u.f ∧ w'.cell? A2 = some (.int .i64 (y).ag) ∧ w'.cell? ⟨A2.block, A2.off + 1, none⟩ = some (.int .i64 (y).kind) ∧ w'.cell? ⟨A2.block, A2.off + 2, none⟩ = some (.bool (y).seq) ∧ w'.cell? ⟨A2.block, A2.off + 3, none⟩ = some (.bool (y).nt) ∧ w'.cell? ⟨A2.block, A2.off + 4, none⟩ = some (.int .i64 (y).blk) ∧ w'.cell? ⟨A2.block, A2.off + 5, none⟩ = some (.int .i64 (y).at_) ∧ w'.cell? ⟨A2.block, A2.off + 6, none⟩ = some (.int .i64 (y).size) ∧ w'.cell? ⟨A2.block, A2.off + 7, none⟩ = some v.r ∧ w'.cell? ⟨A2.block, A2.off + 8, none⟩ = some v.w ∧ w'.cell? ⟨A2.block, A2.off + 9, none⟩ = some v.f) := Lib.hid fun w' z => by
    have h2 := (h.ext (x0.trans z)).cells ha
    have h3 := (h.ext (x0.trans z)).cells hb
    rw [← hx, ← hu, ← hA1] at h2
    rw [← hy, ← hv, ← hA2] at h3
    obtain ⟨a0, a1, a2, a3, a4, a5, a6, a7, a8, a9⟩ := h2
    exact ⟨(b0.ext z).cells.1, a0, a1, a2, a3, a4, a5, a6, a7, a8, a9, h3⟩
  have HR := Lib.hid hr
  obtain ⟨S1, hS1⟩ : ∃ S, S = x.seq := ⟨_, rfl⟩
  obtain ⟨S2, hS2⟩ : ∃ S, S = y.seq := ⟨_, rfl⟩
  obtain ⟨Q, hQ⟩ : ∃ Q, Q = evEq x y := ⟨_, rfl⟩
  obtain ⟨O, hO⟩ : ∃ O, O = evOver x y := ⟨_, rfl⟩
  obtain ⟨WX, hWX⟩ : ∃ O, O = wrsB x := ⟨_, rfl⟩
  obtain ⟨WY, hWY⟩ : ∃ O, O = wrsB y := ⟨_, rfl⟩
  obtain ⟨H1, hH1⟩ : ∃ O, O = hbB L a b := ⟨_, rfl⟩
  obtain ⟨H2, hH2⟩ : ∃ O, O = hbB L b a := ⟨_, rfl⟩
  have HB : Hid (B = (O && (WX || WY) && !H1 && !H2 && !(S1 && S2 && Q))) := Lib.hid (by rw [hB, hO, hWX, hWY, hH1, hH2, hS1, hS2, hQ, hx, hy]; rfl)
  have HS := Lib.hid (And.intro hS1 hS2)
  have HQ := Lib.hid hQ.symm
  have HO := Lib.hid hO.symm
  have HWX := Lib.hid hWX.symm
  have HWY := Lib.hid hWY.symm
  have HH1 := Lib.hid hH1.symm
  have HH2 := Lib.hid hH2.symm
  have k1 := (ev_facts KXY.out.1).1
  have k2 := (ev_facts KXY.out.1).2.1
  have k3 := (ev_facts KXY.out.1).2.2.1
  have k4 := (ev_facts KXY.out.2).1
  have k5 := (ev_facts KXY.out.2).2.1
  have k6 := (ev_facts KXY.out.2).2.2.1
  have hac := ha
  have hbc := hb
  clear hw0 hg0 x0 b0 h hr hB hx hu hy hv hA1 hA2 hS1 hS2 hQ hO hWX hWY hH1 hH2 ha hb
  go_enter Try.func57, Try.ntmps57
  go_upto_region 1 with fail
  rw [← HW.out.1, ← HW.out.2.1]
  clear s1 s2
  go_cut [9, 10] (fun s9 s10 wq => TwoEv w0 x y u v s9 s10 wq)
  case first =>
    have ED : Ext w0 (World.drew w0) := Mod.drew (Mod.refl _ _)
    refine wp_region_planT [] (.take 0 0 (.take 1 0 (.take 2 0 (.take 3 0 (.take 4 0 (.take 5 0 (.take 6 0 (.take 7 0 (.take 8 0 (.take 9 0 (.fork (.alt 10 (.fork (.alt 11 (.fork (.alt 12 (.fork (.alt 13 .nil .noalt)) .noalt)) .noalt)) (.alt 11 (.fork (.alt 10 (.fork (.alt 12 (.fork (.alt 13 .nil .noalt)) .noalt)) .noalt)) .noalt))))))))))))) (fun w' => w'.cell? ⟨g0, 0, none⟩ = some ve ∧ w'.cell? A1 = some (.int .i64 (x).ag) ∧ w'.cell? ⟨A1.block, A1.off + 1, none⟩ = some (.int .i64 (x).kind) ∧ w'.cell? ⟨A1.block, A1.off + 2, none⟩ = some (.bool (x).seq) ∧ w'.cell? ⟨A1.block, A1.off + 3, none⟩ = some (.bool (x).nt) ∧ w'.cell? ⟨A1.block, A1.off + 4, none⟩ = some (.int .i64 (x).blk) ∧ w'.cell? ⟨A1.block, A1.off + 5, none⟩ = some (.int .i64 (x).at_) ∧ w'.cell? ⟨A1.block, A1.off + 6, none⟩ = some (.int .i64 (x).size) ∧ w'.cell? ⟨A1.block, A1.off + 7, none⟩ = some u.r ∧ w'.cell? ⟨A1.block, A1.off + 8, none⟩ = some u.w ∧ w'.cell? ⟨A1.block, A1.off + 9, none⟩ = some u.f ∧ w'.cell? A2 = some (.int .i64 (y).ag) ∧ w'.cell? ⟨A2.block, A2.off + 1, none⟩ = some (.int .i64 (y).kind) ∧ w'.cell? ⟨A2.block, A2.off + 2, none⟩ = some (.bool (y).seq) ∧ w'.cell? ⟨A2.block, A2.off + 3, none⟩ = some (.bool (y).nt) ∧ w'.cell? ⟨A2.block, A2.off + 4, none⟩ = some (.int .i64 (y).blk) ∧ w'.cell? ⟨A2.block, A2.off + 5, none⟩ = some (.int .i64 (y).at_) ∧ w'.cell? ⟨A2.block, A2.off + 6, none⟩ = some (.int .i64 (y).size) ∧ w'.cell? ⟨A2.block, A2.off + 7, none⟩ = some v.r ∧ w'.cell? ⟨A2.block, A2.off + 8, none⟩ = some v.w ∧ w'.cell? ⟨A2.block, A2.off + 9, none⟩ = some v.f) (by kernel_rfl) (by kernel_rfl) (by kernel_rfl) (fun _ d _ _ _ h => by cases d <;> exact h) (KF2.out _ ED) ?_
    simp (decide := true) only [planT, getO]
    (refine planT_take (v := ?_) (by rfl) (fun wS hS => ?_) ?_; rotate_left; (focus ((try dsimp only at hS); go_simp; (try with_reducible rfl); done)); (try simp only [Act.put, List.setIfInBounds_toArray, List.set_cons_zero, List.set_cons_succ]))
    (refine planT_take (v := ?_) (by rfl) (fun wS hS => ?_) ?_; rotate_left; (focus ((try dsimp only at hS); go_simp; (try with_reducible rfl); done)); (try simp only [Act.put, List.setIfInBounds_toArray, List.set_cons_zero, List.set_cons_succ]))
    (refine planT_take (v := ?_) (by rfl) (fun wS hS => ?_) ?_; rotate_left; (focus ((try dsimp only at hS); go_simp; (try with_reducible rfl); done)); (try simp only [Act.put, List.setIfInBounds_toArray, List.set_cons_zero, List.set_cons_succ]))
    (refine planT_take (v := ?_) (by rfl) (fun wS hS => ?_) ?_; rotate_left; (focus ((try dsimp only at hS); go_simp; (try with_reducible rfl); done)); (try simp only [Act.put, List.setIfInBounds_toArray, List.set_cons_zero, List.set_cons_succ]))
    (refine planT_take (v := ?_) (by rfl) (fun wS hS => ?_) ?_; rotate_left; (focus ((try dsimp only at hS); go_simp; (try with_reducible rfl); done)); (try simp only [Act.put, List.setIfInBounds_toArray, List.set_cons_zero, List.set_cons_succ]))
    (refine planT_take (v := ?_) (by rfl) (fun wS hS => ?_) ?_; rotate_left; (focus ((try dsimp only at hS); go_simp; (try with_reducible rfl); done)); (try simp only [Act.put, List.setIfInBounds_toArray, List.set_cons_zero, List.set_cons_succ]))
    (refine planT_take (v := ?_) (by rfl) (fun wS hS => ?_) ?_; rotate_left; (focus ((try dsimp only at hS); go_simp; (try with_reducible rfl); done)); (try simp only [Act.put, List.setIfInBounds_toArray, List.set_cons_zero, List.set_cons_succ]))
    (refine planT_take (v := ?_) (by rfl) (fun wS hS => ?_) ?_; rotate_left; (focus ((try dsimp only at hS); go_simp; (try with_reducible rfl); done)); (try simp only [Act.put, List.setIfInBounds_toArray, List.set_cons_zero, List.set_cons_succ]))
    (refine planT_take (v := ?_) (by rfl) (fun wS hS => ?_) ?_; rotate_left; (focus ((try dsimp only at hS); go_simp; (try with_reducible rfl); done)); (try simp only [Act.put, List.setIfInBounds_toArray, List.set_cons_zero, List.set_cons_succ]))
    (refine planT_take (v := ?_) (by rfl) (fun wS hS => ?_) ?_; rotate_left; (focus ((try dsimp only at hS); go_simp; (try with_reducible rfl); done)); (try simp only [Act.put, List.setIfInBounds_toArray, List.set_cons_zero, List.set_cons_succ]))
    refine planT_fork ?_
    refine planT_alloc rfl rfl (fun w => Try.zeroValue45 w) rfl (fun g1 w1 y1 hg1 hs1 hb1 => ?_) ?_
    · have E1 : Ext w0 w1 := Mod.trans ED y1
      have HG1 := Lib.hid (And.intro hg1 (And.intro hs1 (And.intro hb1 (And.intro E1 (And.intro y1 ED)))))
      clear hg1 hs1 hb1
      refine ⟨fun _ => KF2.out _ E1, ?_⟩
      (try simp only [Act.put, List.setIfInBounds_toArray, List.set_cons_zero, List.set_cons_succ])
      refine planT_fork ?_
      refine planT_alloc rfl rfl (fun w => Try.zeroValue45 w) rfl (fun g2 w2 y2 hg2 hs2 hb2 => ?_) planT_end
      have E2 : Ext w0 w2 := Mod.trans E1 y2
      have HG2 := Lib.hid (And.intro hg2 (And.intro hs2 (And.intro hb2 (And.intro E2 (And.intro y2 E1)))))
      clear hg2 hs2 hb2
      refine ⟨fun _ => KF2.out _ E2, ?_⟩
      (try simp only [Act.put, List.setIfInBounds_toArray, List.set_cons_zero, List.set_cons_succ])
      refine planT_fork ?_
      refine planT_store rfl rfl rfl rfl ((Ext.blk y2 HG1.out.2.2.1)) (by kernel_rfl) rfl (evArr_all (Sl.one (KXY.out.1).rd) (Sl.one (KXY.out.1).wr) (Sl.one (KXY.out.1).fr.sl)) (fun w3 m3 hs3 hb3 => ?_) planT_end
      have E3 : Ext w0 w3 := Mod.trans' E2 m3 (fun q hq => .inr (by obtain ⟨z1a, z1b, -, z1e, z1y, z1p⟩ := HG1.out; have z1f := z1e.size; have z1g := z1y.size; have z1q := z1p.size; obtain ⟨z2a, z2b, -, z2e, z2y, z2p⟩ := HG2.out; have z2f := z2e.size; have z2g := z2y.size; have z2q := z2p.size; have sy1 := y1.size; have sy2 := y2.size; subst hq; omega))
      have HG3 := Lib.hid (And.intro hs3 (And.intro hb3 m3))
      clear hs3 hb3
      refine ⟨fun _ => KF2.out _ E3, ?_⟩
      (try simp only [Act.put])
      refine planT_fork ?_
      refine planT_store rfl rfl rfl rfl ((Mod.blk m3 HG2.out.2.2.1 (by obtain ⟨z1a, z1b, -, z1e, z1y, z1p⟩ := HG1.out; have z1f := z1e.size; have z1g := z1y.size; have z1q := z1p.size; obtain ⟨z2a, z2b, -, z2e, z2y, z2p⟩ := HG2.out; have z2f := z2e.size; have z2g := z2y.size; have z2q := z2p.size; have sy1 := y1.size; have sy2 := y2.size; omega))) (by kernel_rfl) rfl (evArr_all (Sl.one (KXY.out.2).rd) (Sl.one (KXY.out.2).wr) (Sl.one (KXY.out.2).fr.sl)) (fun w4 m4 hs4 hb4 => ?_) planT_end
      have E4 : Ext w0 w4 := Mod.trans' E3 m4 (fun q hq => .inr (by obtain ⟨z1a, z1b, -, z1e, z1y, z1p⟩ := HG1.out; have z1f := z1e.size; have z1g := z1y.size; have z1q := z1p.size; obtain ⟨z2a, z2b, -, z2e, z2y, z2p⟩ := HG2.out; have z2f := z2e.size; have z2g := z2y.size; have z2q := z2p.size; have sy1 := y1.size; have sy2 := y2.size; subst hq; omega))
      have HG4 := Lib.hid (And.intro hs4 (And.intro hb4 m4))
      clear hs4 hb4
      refine ⟨fun _ => KF2.out _ E4, ?_⟩
      (try simp only [Act.put])
      refine planT_nil ?_
      go_wp2_with fail
      go_meet
      exact ⟨g1, g2, rfl, rfl, ⟨(Mod.blk m4 HG3.out.2.1 (by obtain ⟨z1a, z1b, -, z1e, z1y, z1p⟩ := HG1.out; have z1f := z1e.size; have z1g := z1y.size; have z1q := z1p.size; obtain ⟨z2a, z2b, -, z2e, z2y, z2p⟩ := HG2.out; have z2f := z2e.size; have z2g := z2y.size; have z2q := z2p.size; have sy1 := y1.size; have sy2 := y2.size; omega))⟩, ⟨HG4.out.2.1⟩, E4⟩
    refine planT_alloc rfl rfl (fun w => Try.zeroValue45 w) rfl (fun g5 w5 y5 hg5 hs5 hb5 => ?_) planT_end
    have E5 : Ext w0 w5 := Mod.trans ED y5
    have HG5 := Lib.hid (And.intro hg5 (And.intro hs5 (And.intro hb5 (And.intro E5 (And.intro y5 ED)))))
    clear hg5 hs5 hb5
    refine ⟨fun _ => KF2.out _ E5, ?_⟩
    (try simp only [Act.put, List.setIfInBounds_toArray, List.set_cons_zero, List.set_cons_succ])
    refine planT_fork ?_
    refine planT_alloc rfl rfl (fun w => Try.zeroValue45 w) rfl (fun g6 w6 y6 hg6 hs6 hb6 => ?_) planT_end
    have E6 : Ext w0 w6 := Mod.trans E5 y6
    have HG6 := Lib.hid (And.intro hg6 (And.intro hs6 (And.intro hb6 (And.intro E6 (And.intro y6 E5)))))
    clear hg6 hs6 hb6
    refine ⟨fun _ => KF2.out _ E6, ?_⟩
    (try simp only [Act.put, List.setIfInBounds_toArray, List.set_cons_zero, List.set_cons_succ])
    refine planT_fork ?_
    refine planT_store rfl rfl rfl rfl (HG6.out.2.2.1) (by kernel_rfl) rfl (evArr_all (Sl.one (KXY.out.1).rd) (Sl.one (KXY.out.1).wr) (Sl.one (KXY.out.1).fr.sl)) (fun w7 m7 hs7 hb7 => ?_) planT_end
    have E7 : Ext w0 w7 := Mod.trans' E6 m7 (fun q hq => .inr (by obtain ⟨z5a, z5b, -, z5e, z5y, z5p⟩ := HG5.out; have z5f := z5e.size; have z5g := z5y.size; have z5q := z5p.size; obtain ⟨z6a, z6b, -, z6e, z6y, z6p⟩ := HG6.out; have z6f := z6e.size; have z6g := z6y.size; have z6q := z6p.size; have sy5 := y5.size; have sy6 := y6.size; subst hq; omega))
    have HG7 := Lib.hid (And.intro hs7 (And.intro hb7 m7))
    clear hs7 hb7
    refine ⟨fun _ => KF2.out _ E7, ?_⟩
    (try simp only [Act.put])
    refine planT_fork ?_
    refine planT_store rfl rfl rfl rfl ((Mod.blk m7 (Ext.blk y6 HG5.out.2.2.1) (by obtain ⟨z5a, z5b, -, z5e, z5y, z5p⟩ := HG5.out; have z5f := z5e.size; have z5g := z5y.size; have z5q := z5p.size; obtain ⟨z6a, z6b, -, z6e, z6y, z6p⟩ := HG6.out; have z6f := z6e.size; have z6g := z6y.size; have z6q := z6p.size; have sy5 := y5.size; have sy6 := y6.size; omega))) (by kernel_rfl) rfl (evArr_all (Sl.one (KXY.out.2).rd) (Sl.one (KXY.out.2).wr) (Sl.one (KXY.out.2).fr.sl)) (fun w8 m8 hs8 hb8 => ?_) planT_end
    have E8 : Ext w0 w8 := Mod.trans' E7 m8 (fun q hq => .inr (by obtain ⟨z5a, z5b, -, z5e, z5y, z5p⟩ := HG5.out; have z5f := z5e.size; have z5g := z5y.size; have z5q := z5p.size; obtain ⟨z6a, z6b, -, z6e, z6y, z6p⟩ := HG6.out; have z6f := z6e.size; have z6g := z6y.size; have z6q := z6p.size; have sy5 := y5.size; have sy6 := y6.size; subst hq; omega))
    have HG8 := Lib.hid (And.intro hs8 (And.intro hb8 m8))
    clear hs8 hb8
    refine ⟨fun _ => KF2.out _ E8, ?_⟩
    (try simp only [Act.put])
    refine planT_nil ?_
    go_wp2_with fail
    go_meet
    exact ⟨g6, g5, rfl, rfl, ⟨(Mod.blk m8 HG7.out.2.1 (by obtain ⟨z5a, z5b, -, z5e, z5y, z5p⟩ := HG5.out; have z5f := z5e.size; have z5g := z5y.size; have z5q := z5p.size; obtain ⟨z6a, z6b, -, z6e, z6y, z6p⟩ := HG6.out; have z6f := z6e.size; have z6g := z6y.size; have z6q := z6p.size; have sy5 := y5.size; have sy6 := y6.size; omega))⟩, ⟨HG8.out.2.1⟩, E8⟩
  case rest =>
    obtain ⟨b1, b2, rfl, rfl, hc, KB⟩ := hcut.keep KXY.out.1 KXY.out.2
    rw [← HS.out.1, ← HS.out.2] at KB
    clear hcut i0 i1
    obtain ⟨⟨d0, d1, d2, d3, d4, d5, d6, d7, d8, d9⟩, ⟨f0, f1, f2, f3, f4, f5, f6, f7, f8, f9⟩, -⟩ := KB.out _ (Mod.refl _ _)
    go_wp2_with fail
    refine (overlap_any _ ⟨x.ag, x.kind, S1, x.nt, x.blk, x.at_, x.size, x.rd, x.wr, x.fr⟩ ⟨y.ag, y.kind, S2, y.nt, y.blk, y.at_, y.size, y.rd, y.wr, y.fr⟩ u v (KB.out _ (Mod.refl _ _)).2.2.1 (KB.out _ (Mod.refl _ _)).2.2.2).mono ?_
    rintro e v1 ⟨rfl, z1⟩
    have Z1 := Lib.hid (Mod.trans (Mod.refl _ _) z1)
    clear z1
    rw [show evOver ⟨x.ag, x.kind, S1, x.nt, x.blk, x.at_, x.size, x.rd, x.wr, x.fr⟩ ⟨y.ag, y.kind, S2, y.nt, y.blk, y.at_, y.size, y.rd, y.wr, y.fr⟩ = O from HO.out]
    (try clear d0 d1 d2 d3 d4 d5 d6 d7 d8 d9 f0 f1 f2 f3 f4 f5 f6 f7 f8 f9)
    obtain ⟨⟨d0, d1, d2, d3, d4, d5, d6, d7, d8, d9⟩, ⟨f0, f1, f2, f3, f4, f5, f6, f7, f8, f9⟩, -⟩ := KB.out _ Z1.out
    cases O with
    | false =>
      go_wp2_with fail
      go_ret
      exact ⟨ret_bool (by rw [HB.out]; rfl), (HW.out.2.2.trans hc).trans Z1.out⟩
    | true =>
      go_wp2_with fail
      refine (writes_any _ ⟨x.ag, x.kind, S1, x.nt, x.blk, x.at_, x.size, x.rd, x.wr, x.fr⟩ u (KB.out _ Z1.out).2.2.1).mono ?_
      rintro e v2 ⟨rfl, z2⟩
      have Z2 := Lib.hid (Mod.trans Z1.out z2)
      clear z2
      rw [show wrsB ⟨x.ag, x.kind, S1, x.nt, x.blk, x.at_, x.size, x.rd, x.wr, x.fr⟩ = WX from HWX.out]
      (try clear d0 d1 d2 d3 d4 d5 d6 d7 d8 d9 f0 f1 f2 f3 f4 f5 f6 f7 f8 f9)
      obtain ⟨⟨d0, d1, d2, d3, d4, d5, d6, d7, d8, d9⟩, ⟨f0, f1, f2, f3, f4, f5, f6, f7, f8, f9⟩, -⟩ := KB.out _ Z2.out
      cases WX with
      | true =>
        go_wp2_with fail
        refine (has_any _ p L.ev.length (hbB L) ((HR.out.ext (HW.out.2.2.trans hc)).ext Z2.out) a b).mono ?_
        rintro e v4 ⟨rfl, z4⟩
        have Z4 := Lib.hid (Mod.trans Z2.out z4)
        clear z4
        rw [hasB_nat hac hbc, HH1.out]
        (try clear d0 d1 d2 d3 d4 d5 d6 d7 d8 d9 f0 f1 f2 f3 f4 f5 f6 f7 f8 f9)
        obtain ⟨⟨d0, d1, d2, d3, d4, d5, d6, d7, d8, d9⟩, ⟨f0, f1, f2, f3, f4, f5, f6, f7, f8, f9⟩, -⟩ := KB.out _ Z4.out
        cases H1 with
        | true =>
          go_wp2_with fail
          go_ret
          exact ⟨ret_bool (by rw [HB.out]; rfl), (HW.out.2.2.trans hc).trans Z4.out⟩
        | false =>
          go_wp2_with fail
          refine (has_any _ p L.ev.length (hbB L) ((HR.out.ext (HW.out.2.2.trans hc)).ext Z4.out) b a).mono ?_
          rintro e v5 ⟨rfl, z5⟩
          have Z5 := Lib.hid (Mod.trans Z4.out z5)
          clear z5
          rw [hasB_nat hbc hac, HH2.out]
          (try clear d0 d1 d2 d3 d4 d5 d6 d7 d8 d9 f0 f1 f2 f3 f4 f5 f6 f7 f8 f9)
          obtain ⟨⟨d0, d1, d2, d3, d4, d5, d6, d7, d8, d9⟩, ⟨f0, f1, f2, f3, f4, f5, f6, f7, f8, f9⟩, -⟩ := KB.out _ Z5.out
          cases H2 with
          | true =>
            go_wp2_with fail
            go_ret
            exact ⟨ret_bool (by rw [HB.out]; rfl), (HW.out.2.2.trans hc).trans Z5.out⟩
          | false =>
            cases S1 with
            | false =>
              go_wp2_with fail
              go_ret
              exact ⟨ret_bool (by rw [HB.out]; rfl), (HW.out.2.2.trans hc).trans Z5.out⟩
            | true =>
              cases S2 with
              | false =>
                go_wp2_with fail
                go_ret
                exact ⟨ret_bool (by rw [HB.out]; rfl), (HW.out.2.2.trans hc).trans Z5.out⟩
              | true =>
                go_wp2_with fail
                refine (equal_any _ ⟨x.ag, x.kind, true, x.nt, x.blk, x.at_, x.size, x.rd, x.wr, x.fr⟩ ⟨y.ag, y.kind, true, y.nt, y.blk, y.at_, y.size, y.rd, y.wr, y.fr⟩ u v (KB.out _ Z5.out).2.2.1 (KB.out _ Z5.out).2.2.2).mono ?_
                rintro e v6 ⟨rfl, z6⟩
                have Z6 := Lib.hid (Mod.trans Z5.out z6)
                clear z6
                rw [show evEq ⟨x.ag, x.kind, true, x.nt, x.blk, x.at_, x.size, x.rd, x.wr, x.fr⟩ ⟨y.ag, y.kind, true, y.nt, y.blk, y.at_, y.size, y.rd, y.wr, y.fr⟩ = Q from HQ.out]
                (try clear d0 d1 d2 d3 d4 d5 d6 d7 d8 d9 f0 f1 f2 f3 f4 f5 f6 f7 f8 f9)
                obtain ⟨⟨d0, d1, d2, d3, d4, d5, d6, d7, d8, d9⟩, ⟨f0, f1, f2, f3, f4, f5, f6, f7, f8, f9⟩, -⟩ := KB.out _ Z6.out
                cases Q with
                | false =>
                  go_wp2_with fail
                  go_ret
                  exact ⟨ret_bool (by rw [HB.out]; rfl), (HW.out.2.2.trans hc).trans Z6.out⟩
                | true =>
                  go_wp2_with fail
                  go_ret
                  exact ⟨ret_bool (by rw [HB.out]; rfl), (HW.out.2.2.trans hc).trans Z6.out⟩
      | false =>
        go_wp2_with fail
        refine (writes_any _ ⟨y.ag, y.kind, S2, y.nt, y.blk, y.at_, y.size, y.rd, y.wr, y.fr⟩ v (KB.out _ Z2.out).2.2.2).mono ?_
        rintro e v3 ⟨rfl, z3⟩
        have Z3 := Lib.hid (Mod.trans Z2.out z3)
        clear z3
        rw [show wrsB ⟨y.ag, y.kind, S2, y.nt, y.blk, y.at_, y.size, y.rd, y.wr, y.fr⟩ = WY from HWY.out]
        (try clear d0 d1 d2 d3 d4 d5 d6 d7 d8 d9 f0 f1 f2 f3 f4 f5 f6 f7 f8 f9)
        obtain ⟨⟨d0, d1, d2, d3, d4, d5, d6, d7, d8, d9⟩, ⟨f0, f1, f2, f3, f4, f5, f6, f7, f8, f9⟩, -⟩ := KB.out _ Z3.out
        cases WY with
        | false =>
          go_wp2_with fail
          go_ret
          exact ⟨ret_bool (by rw [HB.out]; rfl), (HW.out.2.2.trans hc).trans Z3.out⟩
        | true =>
          go_wp2_with fail
          refine (has_any _ p L.ev.length (hbB L) ((HR.out.ext (HW.out.2.2.trans hc)).ext Z3.out) a b).mono ?_
          rintro e v4 ⟨rfl, z4⟩
          have Z4 := Lib.hid (Mod.trans Z3.out z4)
          clear z4
          rw [hasB_nat hac hbc, HH1.out]
          (try clear d0 d1 d2 d3 d4 d5 d6 d7 d8 d9 f0 f1 f2 f3 f4 f5 f6 f7 f8 f9)
          obtain ⟨⟨d0, d1, d2, d3, d4, d5, d6, d7, d8, d9⟩, ⟨f0, f1, f2, f3, f4, f5, f6, f7, f8, f9⟩, -⟩ := KB.out _ Z4.out
          cases H1 with
          | true =>
            go_wp2_with fail
            go_ret
            exact ⟨ret_bool (by rw [HB.out]; rfl), (HW.out.2.2.trans hc).trans Z4.out⟩
          | false =>
            go_wp2_with fail
            refine (has_any _ p L.ev.length (hbB L) ((HR.out.ext (HW.out.2.2.trans hc)).ext Z4.out) b a).mono ?_
            rintro e v5 ⟨rfl, z5⟩
            have Z5 := Lib.hid (Mod.trans Z4.out z5)
            clear z5
            rw [hasB_nat hbc hac, HH2.out]
            (try clear d0 d1 d2 d3 d4 d5 d6 d7 d8 d9 f0 f1 f2 f3 f4 f5 f6 f7 f8 f9)
            obtain ⟨⟨d0, d1, d2, d3, d4, d5, d6, d7, d8, d9⟩, ⟨f0, f1, f2, f3, f4, f5, f6, f7, f8, f9⟩, -⟩ := KB.out _ Z5.out
            cases H2 with
            | true =>
              go_wp2_with fail
              go_ret
              exact ⟨ret_bool (by rw [HB.out]; rfl), (HW.out.2.2.trans hc).trans Z5.out⟩
            | false =>
              cases S1 with
              | false =>
                go_wp2_with fail
                go_ret
                exact ⟨ret_bool (by rw [HB.out]; rfl), (HW.out.2.2.trans hc).trans Z5.out⟩
              | true =>
                cases S2 with
                | false =>
                  go_wp2_with fail
                  go_ret
                  exact ⟨ret_bool (by rw [HB.out]; rfl), (HW.out.2.2.trans hc).trans Z5.out⟩
                | true =>
                  go_wp2_with fail
                  refine (equal_any _ ⟨x.ag, x.kind, true, x.nt, x.blk, x.at_, x.size, x.rd, x.wr, x.fr⟩ ⟨y.ag, y.kind, true, y.nt, y.blk, y.at_, y.size, y.rd, y.wr, y.fr⟩ u v (KB.out _ Z5.out).2.2.1 (KB.out _ Z5.out).2.2.2).mono ?_
                  rintro e v6 ⟨rfl, z6⟩
                  have Z6 := Lib.hid (Mod.trans Z5.out z6)
                  clear z6
                  rw [show evEq ⟨x.ag, x.kind, true, x.nt, x.blk, x.at_, x.size, x.rd, x.wr, x.fr⟩ ⟨y.ag, y.kind, true, y.nt, y.blk, y.at_, y.size, y.rd, y.wr, y.fr⟩ = Q from HQ.out]
                  (try clear d0 d1 d2 d3 d4 d5 d6 d7 d8 d9 f0 f1 f2 f3 f4 f5 f6 f7 f8 f9)
                  obtain ⟨⟨d0, d1, d2, d3, d4, d5, d6, d7, d8, d9⟩, ⟨f0, f1, f2, f3, f4, f5, f6, f7, f8, f9⟩, -⟩ := KB.out _ Z6.out
                  cases Q with
                  | false =>
                    go_wp2_with fail
                    go_ret
                    exact ⟨ret_bool (by rw [HB.out]; rfl), (HW.out.2.2.trans hc).trans Z6.out⟩
                  | true =>
                    go_wp2_with fail
                    go_ret
                    exact ⟨ret_bool (by rw [HB.out]; rfl), (HW.out.2.2.trans hc).trans Z6.out⟩
set_option maxRecDepth 100000 in
set_option maxHeartbeats 800000 in
theorem two_any (w : World) (ve vp : Value) (V : Nat → Vs) (L : Lg) (h : LogIn w ve vp V L) (a b : Int) :
    Calls Try.prog 56 #[.agg #[ve, vp], .int .i64 a, .int .i64 b] w (FPost (twoB L a b) w) := by
  have q1 := Sl.cells_eq h.row
  have q2 := Sl.cells_eq h.prow
  have s1 := Sl.run_st (P := Try.prog) h.row
  have s2 := Sl.run_st (P := Try.prog) h.prow
  have l1 := h.row.run_len (P := Try.prog) IEv.und 3
  obtain ⟨w0, hw0⟩ : ∃ w0, w0 = w.alloc (.cells #[ve, vp] 25) := ⟨_, rfl⟩
  obtain ⟨g0, hg0⟩ : ∃ g, g = w.heap.size := ⟨_, rfl⟩
  have x0 : Ext w w0 := by rw [hw0]; exact (Mod.refl _ _).alloc _
  have b0 : LogBox w0 g0 ve vp := ⟨by rw [hw0, hg0]; exact heap_alloc_new _ _⟩
  have HW := Lib.hid (And.intro hw0 (And.intro hg0 x0))
  have KE : Hid (∀ w', Ext w0 w' → LogIn w' ve vp V L ∧ LogBox w' g0 ve vp) := Lib.hid fun w' x => ⟨h.ext (x0.trans x), b0.ext x⟩
  obtain ⟨B, hB⟩ : ∃ B, B = twoB L a b := ⟨_, rfl⟩
  rw [← hB]
  obtain ⟨M, hM⟩ : ∃ B, B = mayL L := ⟨_, rfl⟩
  have HB : Hid (B = (M && decide (0 ≤ a ∧ a < (L.ev.length : Int) ∧ 0 ≤ b ∧ b < (L.ev.length : Int) ∧ a ≠ b))) := Lib.hid (by rw [hB, hM]; rfl)
  have HM := Lib.hid hM.symm
  obtain ⟨c0, c1⟩ := b0.cells
  clear hw0 hg0 x0 b0 h hB hM
  go_enter Try.func56, Try.ntmps56
  go_upto_region 1 with fail
  rw [← HW.out.1, ← HW.out.2.1]
  clear s1 s2
  go_wp2_with fail
  refine (may_any _ ve vp V L (KE.out _ (Mod.refl _ _)).1).mono ?_
  rintro e w1 ⟨rfl, y1⟩
  rw [HM.out]
  clear c0 c1
  cases M with
  | false =>
    go_wp2_with fail
    go_ret
    exact ⟨ret_bool (by rw [HB.out]; rfl), HW.out.2.2.trans y1⟩
  | true =>
    rcases (by omega : a < 0 ∨ (0 ≤ a ∧ (L.ev.length : Int) ≤ a) ∨ (0 ≤ a ∧ a < (L.ev.length : Int) ∧ b < 0) ∨ (0 ≤ a ∧ a < (L.ev.length : Int) ∧ 0 ≤ b ∧ (L.ev.length : Int) ≤ b) ∨ (0 ≤ a ∧ a < (L.ev.length : Int) ∧ 0 ≤ b ∧ b < (L.ev.length : Int) ∧ a = b) ∨ (0 ≤ a ∧ a < (L.ev.length : Int) ∧ 0 ≤ b ∧ b < (L.ev.length : Int) ∧ a ≠ b)) with z | ⟨z, z1⟩ | ⟨z, z1, z2⟩ | ⟨z, z1, z2, z3⟩ | ⟨z, z1, z2, z3, z4⟩ | ⟨z, z1, z2, z3, z4⟩
    case inr.inr.inr.inr.inr =>
      have hne : (a != b) = true := by rw [bne_iff_ne]; exact z4
      have HF : Hid (B = true) := Lib.hid (by rw [HB.out, Bool.true_and, decide_eq_true_eq]; exact ⟨z, z1, z2, z3, z4⟩)
      clear z4
      go_wp2_with fail
      go_ret
      exact ⟨ret_bool (by rw [HF.out]), HW.out.2.2.trans y1⟩
    case inr.inr.inr.inr.inl =>
      have hne : (a != b) = false := by simp [z4]
      have HF : Hid (B = false) := Lib.hid (by rw [HB.out, Bool.true_and, decide_eq_false_iff_not]; omega)
      clear z4
      go_wp2_with fail
      go_ret
      exact ⟨ret_bool (by rw [HF.out]), HW.out.2.2.trans y1⟩
    all_goals
      have HF : Hid (B = false) := Lib.hid (by rw [HB.out, Bool.true_and, decide_eq_false_iff_not]; omega)
      go_wp2_with fail
      go_ret
      exact ⟨ret_bool (by rw [HF.out]), HW.out.2.2.trans y1⟩
set_option maxRecDepth 100000 in
set_option maxHeartbeats 800000 in
theorem conflict_any (w : World) (ve vp : Value) (V : Nat → Vs) (L : Lg) (h : LogIn w ve vp V L) (hl : L.ev.length ≤ 64) (a b : Int) :
    Calls Try.prog 16 #[.agg #[ve, vp], .int .i64 a, .int .i64 b] w (FPost (cfB L a b) w) := by
  have q1 := Sl.cells_eq h.row
  have q2 := Sl.cells_eq h.prow
  have s1 := Sl.run_st (P := Try.prog) h.row
  have s2 := Sl.run_st (P := Try.prog) h.prow
  obtain ⟨w0, hw0⟩ : ∃ w0, w0 = w.alloc (.cells #[ve, vp] 25) := ⟨_, rfl⟩
  obtain ⟨g0, hg0⟩ : ∃ g, g = w.heap.size := ⟨_, rfl⟩
  have x0 : Ext w w0 := by rw [hw0]; exact (Mod.refl _ _).alloc _
  have b0 : LogBox w0 g0 ve vp := ⟨by rw [hw0, hg0]; exact heap_alloc_new _ _⟩
  have HW := Lib.hid (And.intro hw0 (And.intro hg0 x0))
  have KE : Hid (∀ w', Ext w0 w' → LogIn w' ve vp V L ∧ LogBox w' g0 ve vp) := Lib.hid fun w' x => ⟨h.ext (x0.trans x), b0.ext x⟩
  have KF : Hid (∀ w', Ext w0 w' → w'.cell? ⟨g0, 0, none⟩ = some ve ∧ w'.cell? ⟨g0, 1, none⟩ = some vp) := Lib.hid fun w' x => (b0.ext x).cells
  have HL := Lib.hid hl
  obtain ⟨T, hT⟩ : ∃ T, T = twoB L a b := ⟨_, rfl⟩
  obtain ⟨B, hB⟩ : ∃ B, B = cfB L a b := ⟨_, rfl⟩
  rw [← hB]
  have HB : Hid (B = (T && unB L a.toNat b.toNat)) := Lib.hid (by rw [hB, hT]; rfl)
  clear hw0 hg0 x0 b0 h hl hB
  cases T with
  | false =>
    have HT := Lib.hid hT.symm
    clear hT
    go_enter Try.func16, Try.ntmps16
    go_upto_region 1 with fail
    rw [← HW.out.1, ← HW.out.2.1]
    clear s1 s2
    refine wp_region_plan [(0, true), (1, true), (2, true), (3, false), (4, true), (5, true), (6, true), (8, true), (9, true), (7, false), (10, false), (11, true), (12, true)] (fun w' => w'.cell? ⟨g0, 0, none⟩ = some ve ∧ w'.cell? ⟨g0, 1, none⟩ = some vp) (by kernel_rfl) (by kernel_rfl) (by kernel_rfl) (fun _ d _ _ _ h => by cases d <;> exact h) (KF.out _ (Mod.drew (Mod.refl _ _))) ?_
    simp only [planL, getO]
    iterate 3 (refine plan_take (v := ?_) (by rfl) (fun wS hS => ?_) ?_; rotate_left; (focus ((try dsimp only at hS); go_simp; (try with_reducible rfl); done)); (try simp only [Act.put, List.setIfInBounds_toArray, List.set_cons_zero, List.set_cons_succ]))
    refine plan_call (fun K hK => ?_)
    go_simp
    go_at_call 56; refine (two_any _ ve vp V L (KE.out _ (Mod.drew (Mod.refl _ _))).1 _ _).mono ?_; rintro e w1 ⟨rfl, y1⟩; have E1 : Ext w0 w1 := Mod.trans (Mod.drew (Mod.refl _ _)) y1; rw [HT.out]
    refine hK.out _ _ (KF.out _ E1) ?_
    clear hK K
    (try simp only [Act.put, List.setIfInBounds_toArray, List.set_cons_zero, List.set_cons_succ])
    (refine plan_take (v := ?_) (by rfl) (fun wS hS => ?_) ?_; rotate_left; (focus ((try dsimp only at hS); go_simp; (try with_reducible rfl); done)); (try simp only [Act.put, List.setIfInBounds_toArray, List.set_cons_zero, List.set_cons_succ]))
    iterate 4 (refine plan_skip (by rfl) ?_; (try simp only [Act.put, List.setIfInBounds_toArray, List.set_cons_zero, List.set_cons_succ]))
    (refine plan_skip (by rfl) ?_; (try simp only [Act.put, List.setIfInBounds_toArray, List.set_cons_zero, List.set_cons_succ]))
    (refine plan_skip (by rfl) ?_; (try simp only [Act.put, List.setIfInBounds_toArray, List.set_cons_zero, List.set_cons_succ]))
    iterate 2 (refine plan_take (v := ?_) (by rfl) (fun wS hS => ?_) ?_; rotate_left; (focus ((try dsimp only at hS); go_simp; (try with_reducible rfl); done)); (try simp only [Act.put, List.setIfInBounds_toArray, List.set_cons_zero, List.set_cons_succ]))
    refine plan_nil ?_
    go_wp2_with fail
    go_ret
    exact ⟨ret_bool (by rw [HB.out]; rfl), HW.out.2.2.trans E1⟩
  | true =>
    have HT := Lib.hid hT.symm
    have h2 := hT
    unfold twoB at h2
    have h3 := h2.symm
    simp only [Bool.and_eq_true, decide_eq_true_eq] at h3
    obtain ⟨h4, h5, h6, h7, h8, h9⟩ := h3
    obtain ⟨a, rfl⟩ := Int.eq_ofNat_of_zero_le h5
    obtain ⟨b, rfl⟩ := Int.eq_ofNat_of_zero_le h7
    have HTT : Hid (mayL L = true ∧ a < L.ev.length ∧ b < L.ev.length) := Lib.hid ⟨h4, by omega, by omega⟩
    clear hT h2 h4 h5 h6 h7 h8 h9
    go_enter Try.func16, Try.ntmps16
    go_upto_region 1 with fail
    rw [← HW.out.1, ← HW.out.2.1]
    clear s1 s2
    refine wp_region_plan [(0, true), (1, true), (2, true), (3, false), (4, true), (5, true), (6, true), (8, true), (9, true), (7, false), (10, false), (11, true), (12, true)] (fun w' => w'.cell? ⟨g0, 0, none⟩ = some ve ∧ w'.cell? ⟨g0, 1, none⟩ = some vp) (by kernel_rfl) (by kernel_rfl) (by kernel_rfl) (fun _ d _ _ _ h => by cases d <;> exact h) (KF.out _ (Mod.drew (Mod.refl _ _))) ?_
    simp only [planL, getO]
    iterate 3 (refine plan_take (v := ?_) (by rfl) (fun wS hS => ?_) ?_; rotate_left; (focus ((try dsimp only at hS); go_simp; (try with_reducible rfl); done)); (try simp only [Act.put, List.setIfInBounds_toArray, List.set_cons_zero, List.set_cons_succ]))
    refine plan_call (fun K hK => ?_)
    go_simp
    go_at_call 56; refine (two_any _ ve vp V L (KE.out _ (Mod.drew (Mod.refl _ _))).1 _ _).mono ?_; rintro e w1 ⟨rfl, y1⟩; have E1 : Ext w0 w1 := Mod.trans (Mod.drew (Mod.refl _ _)) y1; rw [HT.out]
    refine hK.out _ _ (KF.out _ E1) ?_
    clear hK K
    (try simp only [Act.put, List.setIfInBounds_toArray, List.set_cons_zero, List.set_cons_succ])
    iterate 5 (refine plan_take (v := ?_) (by rfl) (fun wS hS => ?_) ?_; rotate_left; (focus ((try dsimp only at hS); go_simp; (try with_reducible rfl); done)); (try simp only [Act.put, List.setIfInBounds_toArray, List.set_cons_zero, List.set_cons_succ]))
    refine plan_call (fun K hK => ?_)
    go_simp
    go_at_call 26; refine (rbefore_any _ ve vp V L (KE.out _ E1).1 HL.out).mono ?_; rintro e w2 h2; obtain ⟨p2, rfl, r2, y2⟩ := rpost_is h2; have E2 : Ext w0 w2 := Mod.trans E1 y2; rw [relN_may HTT.out.1] at r2; have HR2 := Lib.hid r2; clear h2 r2
    refine hK.out _ _ (KF.out _ E2) ?_
    clear hK K
    (try simp only [Act.put, List.setIfInBounds_toArray, List.set_cons_zero, List.set_cons_succ])
    refine plan_call (fun K hK => ?_)
    go_simp
    go_at_call 57; refine (unord_any _ ve vp V L (KE.out _ E2).1 _ HR2.out a b HTT.out.2.1 HTT.out.2.2).mono ?_; rintro e w3 ⟨rfl, y3⟩; have E3 : Ext w0 w3 := Mod.trans E2 y3
    refine hK.out _ _ (KF.out _ E3) ?_
    clear hK K
    (try simp only [Act.put, List.setIfInBounds_toArray, List.set_cons_zero, List.set_cons_succ])
    iterate 2 (refine plan_take (v := ?_) (by rfl) (fun wS hS => ?_) ?_; rotate_left; (focus ((try dsimp only at hS); go_simp; (try with_reducible rfl); done)); (try simp only [Act.put, List.setIfInBounds_toArray, List.set_cons_zero, List.set_cons_succ]))
    refine plan_nil ?_
    go_wp2_with fail
    go_ret
    exact ⟨ret_bool (by rw [HB.out]; rfl), HW.out.2.2.trans E3⟩
end Go.Proofs.Ythmkcgiiakinmaa
