/-
  The contracts of race.unordered, race.two, race.Conflict. No condition. The contracts of race.Conflicts, race.Datas, race.First. No condition.
-/
import Derived.Test.YtbhocahmhmafmaaGreatTRelTool
namespace Go.Proofs.YtbhocahmhmafmaaGreat
open Go.Ren Go.RowKit
set_option linter.unusedVariables false
set_option maxRecDepth 100000 in
set_option maxHeartbeats 1600000 in
theorem unord_any (w : World) (ve vp : Value) (V : Nat → Vs) (L : Lg) (h : LogIn w ve vp V L) (p : Value) (hr : RelIs w p L.ev.length (hbB L)) (a b : Nat) (ha : a < L.ev.length) (hb : b < L.ev.length) :
 Calls Tryz.prog 69 #[.agg #[ve, vp], p, .int .i64 (a : Int), .int .i64 (b : Int)] w (FPost (unB L a b) w) := by
 have q1 := Sl.cells_eq h.row
 have q2 := Sl.cells_eq h.prow
 have s1 := Sl.run_st (P := Tryz.prog) h.row
 have s2 := Sl.run_st (P := Tryz.prog) h.prow
 have i0 := h.row.run_idx (P := Tryz.prog) IEv.und IEv.size .i64 a ha
 have i1 := h.row.run_idx (P := Tryz.prog) IEv.und IEv.size .i64 b hb
 obtain ⟨B, hB⟩ : ∃ B, B = unB L a b := ⟨_, rfl⟩
 rw [← hB]
 obtain ⟨x, hx⟩ : ∃ e, e = evn L.ev a := ⟨_, rfl⟩
 obtain ⟨u, hu⟩ : ∃ v, v = V a := ⟨_, rfl⟩
 obtain ⟨y, hy⟩ : ∃ e, e = evn L.ev b := ⟨_, rfl⟩
 obtain ⟨v, hv⟩ : ∃ v, v = V b := ⟨_, rfl⟩
 obtain ⟨A1, hA1⟩ : ∃ A, A = at_ ve (a * 10) := ⟨_, rfl⟩
 obtain ⟨A2, hA2⟩ : ∃ A, A = at_ ve (b * 10) := ⟨_, rfl⟩
 rw [← hA1] at i0
 rw [← hA2] at i1
 obtain ⟨w0, hw0⟩ : ∃ w0, w0 = w.alloc (.cells #[ve, vp] 48) := ⟨_, rfl⟩
 obtain ⟨g0, hg0⟩ : ∃ g, g = w.heap.size := ⟨_, rfl⟩
 have x0 : Ext w w0 := by rw [hw0]; exact (Mod.refl _ _).alloc _
 have b0 : LogBox w0 g0 ve vp := ⟨by rw [hw0, hg0]; exact heap_alloc_new _ _⟩
 have HW := Lib.hid (And.intro hw0 (And.intro hg0 x0))
 have KXY : Hid (EvAt w0 x u ∧ EvAt w0 y v) := Lib.hid ⟨by rw [hx, hu]; exact (h.ext x0).ev a ha, by rw [hy, hv]; exact (h.ext x0).ev b hb⟩
 have KF2 : Hid (∀ w', Ext w0 w' → w'.cell? ⟨g0, 0, none⟩ = some ve ∧ w'.cell? A1 = some (.int .i64 (x).ag) ∧ w'.cell? ⟨A1.block, A1.off + 1, none⟩ = some (.int .i64 (x).kind) ∧ w'.cell? ⟨A1.block, A1.off + 2, none⟩ = some (.bool (x).seq) ∧ w'.cell? ⟨A1.block, A1.off + 3, none⟩ = some (.bool (x).nt) ∧ w'.cell? ⟨A1.block, A1.off + 4, none⟩ = some (.int .i64 (x).blk) ∧ w'.cell? ⟨A1.block, A1.off + 5, none⟩ = some (.int .i64 (x).at_) ∧ w'.cell? ⟨A1.block, A1.off + 6, none⟩ = some (.int .i64 (x).size) ∧ w'.cell? ⟨A1.block, A1.off + 7, none⟩ = some u.r ∧ w'.cell? ⟨A1.block, A1.off + 8, none⟩ = some u.w ∧ w'.cell? ⟨A1.block, A1.off + 9, none⟩ = some u.f ∧ w'.cell? A2 = some (.int .i64 (y).ag) ∧ w'.cell? ⟨A2.block, A2.off + 1, none⟩ = some (.int .i64 (y).kind) ∧ w'.cell? ⟨A2.block, A2.off + 2, none⟩ = some (.bool (y).seq) ∧ w'.cell? ⟨A2.block, A2.off + 3, none⟩ = some (.bool (y).nt) ∧ w'.cell? ⟨A2.block, A2.off + 4, none⟩ = some (.int .i64 (y).blk) ∧ w'.cell? ⟨A2.block, A2.off + 5, none⟩ = some (.int .i64 (y).at_) ∧ w'.cell? ⟨A2.block, A2.off + 6, none⟩ = some (.int .i64 (y).size) ∧ w'.cell? ⟨A2.block, A2.off + 7, none⟩ = some v.r ∧ w'.cell? ⟨A2.block, A2.off + 8, none⟩ = some v.w ∧ w'.cell? ⟨A2.block, A2.off + 9, none⟩ = some v.f) := Lib.hid fun w' z => by
  have h2 := (h.ext (x0.trans z)).cells ha
  have h3 := (h.ext (x0.trans z)).cells hb
  rw [← hx, ← hu, ← hA1] at h2
  rw [← hy, ← hv, ← hA2] at h3
  obtain ⟨a0, a1, a2, a3, a4, a5, a6, a7, a8, a9⟩ := h2
  exact ⟨(b0.ext z).cells.1, a0, a1, a2, a3, a4, a5, a6, a7, a8, a9, h3⟩
 have HR := Lib.hid hr
 obtain ⟨S1, hS1⟩ : ∃ S, S = x.seq := ⟨_, rfl⟩
 obtain ⟨S2, hS2⟩ : ∃ S, S = y.seq := ⟨_, rfl⟩
 obtain ⟨Q, hQ⟩ : ∃ Q, Q = evEq x y := ⟨_, rfl⟩
 obtain ⟨O, hO⟩ : ∃ O, O = evOver x y := ⟨_, rfl⟩
 obtain ⟨WX, hWX⟩ : ∃ O, O = wrsB x := ⟨_, rfl⟩
 obtain ⟨WY, hWY⟩ : ∃ O, O = wrsB y := ⟨_, rfl⟩
 obtain ⟨H1, hH1⟩ : ∃ O, O = hbB L a b := ⟨_, rfl⟩
 obtain ⟨H2, hH2⟩ : ∃ O, O = hbB L b a := ⟨_, rfl⟩
 have HB : Hid (B = (O && (WX || WY) && !H1 && !H2 && !(S1 && S2 && Q))) := Lib.hid (by rw [hB, hO, hWX, hWY, hH1, hH2, hS1, hS2, hQ, hx, hy]; rfl)
 have HS := Lib.hid (And.intro hS1 hS2)
 have HQ := Lib.hid hQ.symm
 have HO := Lib.hid hO.symm
 have HWX := Lib.hid hWX.symm
 have HWY := Lib.hid hWY.symm
 have HH1 := Lib.hid hH1.symm
 have HH2 := Lib.hid hH2.symm
 have k1 := (ev_facts KXY.out.1).1
 have k2 := (ev_facts KXY.out.1).2.1
 have k3 := (ev_facts KXY.out.1).2.2.1
 have k4 := (ev_facts KXY.out.2).1
 have k5 := (ev_facts KXY.out.2).2.1
 have k6 := (ev_facts KXY.out.2).2.2.1
 have hac := ha
 have hbc := hb
 clear hw0 hg0 x0 b0 h hr hB hx hu hy hv hA1 hA2 hS1 hS2 hQ hO hWX hWY hH1 hH2 ha hb
 go_enter Tryz.func69, Tryz.ntmps69
 go_upto_region 1 with fail
 rw [← HW.out.1, ← HW.out.2.1]
 clear s1 s2
 go_cut [9, 10] (fun s9 s10 wq => TwoEv w0 x y u v s9 s10 wq)
 case first =>
  have ED : Ext w0 (World.drew w0) := Mod.drew (Mod.refl _ _)
  refine wp_region_planT [] (.take 0 0 (.take 1 0 (.take 2 0 (.take 3 0 (.take 4 0 (.take 5 0 (.take 6 0 (.take 7 0 (.take 8 0 (.take 9 0 (.fork (.alt 10 (.fork (.alt 11 (.fork (.alt 12 (.fork (.alt 13 .nil .noalt)) .noalt)) .noalt)) (.alt 11 (.fork (.alt 10 (.fork (.alt 12 (.fork (.alt 13 .nil .noalt)) .noalt)) .noalt)) .noalt))))))))))))) (fun w' => w'.cell? ⟨g0, 0, none⟩ = some ve ∧ w'.cell? A1 = some (.int .i64 (x).ag) ∧ w'.cell? ⟨A1.block, A1.off + 1, none⟩ = some (.int .i64 (x).kind) ∧ w'.cell? ⟨A1.block, A1.off + 2, none⟩ = some (.bool (x).seq) ∧ w'.cell? ⟨A1.block, A1.off + 3, none⟩ = some (.bool (x).nt) ∧ w'.cell? ⟨A1.block, A1.off + 4, none⟩ = some (.int .i64 (x).blk) ∧ w'.cell? ⟨A1.block, A1.off + 5, none⟩ = some (.int .i64 (x).at_) ∧ w'.cell? ⟨A1.block, A1.off + 6, none⟩ = some (.int .i64 (x).size) ∧ w'.cell? ⟨A1.block, A1.off + 7, none⟩ = some u.r ∧ w'.cell? ⟨A1.block, A1.off + 8, none⟩ = some u.w ∧ w'.cell? ⟨A1.block, A1.off + 9, none⟩ = some u.f ∧ w'.cell? A2 = some (.int .i64 (y).ag) ∧ w'.cell? ⟨A2.block, A2.off + 1, none⟩ = some (.int .i64 (y).kind) ∧ w'.cell? ⟨A2.block, A2.off + 2, none⟩ = some (.bool (y).seq) ∧ w'.cell? ⟨A2.block, A2.off + 3, none⟩ = some (.bool (y).nt) ∧ w'.cell? ⟨A2.block, A2.off + 4, none⟩ = some (.int .i64 (y).blk) ∧ w'.cell? ⟨A2.block, A2.off + 5, none⟩ = some (.int .i64 (y).at_) ∧ w'.cell? ⟨A2.block, A2.off + 6, none⟩ = some (.int .i64 (y).size) ∧ w'.cell? ⟨A2.block, A2.off + 7, none⟩ = some v.r ∧ w'.cell? ⟨A2.block, A2.off + 8, none⟩ = some v.w ∧ w'.cell? ⟨A2.block, A2.off + 9, none⟩ = some v.f) (by kernel_rfl) (by kernel_rfl) (by kernel_rfl) (fun _ d _ _ _ h => by cases d <;> exact h) (KF2.out _ ED) ?_
  simp (decide := true) only [planT, getO]
  iterate 10 (refine planT_take (v := ?_) (by rfl) (fun wS hS => ?_) ?_; rotate_left; (focus ((try dsimp only at hS); go_simp; (try with_reducible rfl); done)); (try simp only [Act.put, List.setIfInBounds_toArray, List.set_cons_zero, List.set_cons_succ]))
  refine planT_fork ?_
  refine planT_alloc rfl rfl (fun w => Tryz.zeroValue70 w) rfl (fun g1 w1 y1 hg1 hs1 hb1 => ?_) ?_
  · have E1 : Ext w0 w1 := Mod.trans ED y1
    have HG1 := Lib.hid (And.intro hg1 (And.intro hs1 (And.intro hb1 (And.intro E1 (And.intro y1 ED)))))
    clear hg1 hs1 hb1
    refine ⟨fun _ => KF2.out _ E1, ?_⟩
    (try simp only [Act.put, List.setIfInBounds_toArray, List.set_cons_zero, List.set_cons_succ])
    refine planT_fork ?_
    refine planT_alloc rfl rfl (fun w => Tryz.zeroValue70 w) rfl (fun g2 w2 y2 hg2 hs2 hb2 => ?_) planT_end
    have E2 : Ext w0 w2 := Mod.trans E1 y2
    have HG2 := Lib.hid (And.intro hg2 (And.intro hs2 (And.intro hb2 (And.intro E2 (And.intro y2 E1)))))
    clear hg2 hs2 hb2
    refine ⟨fun _ => KF2.out _ E2, ?_⟩
    (try simp only [Act.put, List.setIfInBounds_toArray, List.set_cons_zero, List.set_cons_succ])
    refine planT_fork ?_
    refine planT_store rfl rfl rfl rfl ((Ext.blk y2 HG1.out.2.2.1)) (by kernel_rfl) rfl (evArr_all (Sl.one (KXY.out.1).rd) (Sl.one (KXY.out.1).wr) (Sl.one (KXY.out.1).fr.sl)) (fun w3 m3 hs3 hb3 => ?_) planT_end
    have E3 : Ext w0 w3 := Mod.trans' E2 m3 (fun q hq => .inr (by obtain ⟨z1a, z1b, -, z1e, z1y, z1p⟩ := HG1.out; have z1f := z1e.size; have z1g := z1y.size; have z1q := z1p.size; obtain ⟨z2a, z2b, -, z2e, z2y, z2p⟩ := HG2.out; have z2f := z2e.size; have z2g := z2y.size; have z2q := z2p.size; have sy1 := y1.size; have sy2 := y2.size; subst hq; omega))
    have HG3 := Lib.hid (And.intro hs3 (And.intro hb3 m3))
    clear hs3 hb3
    refine ⟨fun _ => KF2.out _ E3, ?_⟩
    (try simp only [Act.put])
    refine planT_fork ?_
    refine planT_store rfl rfl rfl rfl ((Mod.blk m3 HG2.out.2.2.1 (by obtain ⟨z1a, z1b, -, z1e, z1y, z1p⟩ := HG1.out; have z1f := z1e.size; have z1g := z1y.size; have z1q := z1p.size; obtain ⟨z2a, z2b, -, z2e, z2y, z2p⟩ := HG2.out; have z2f := z2e.size; have z2g := z2y.size; have z2q := z2p.size; have sy1 := y1.size; have sy2 := y2.size; omega))) (by kernel_rfl) rfl (evArr_all (Sl.one (KXY.out.2).rd) (Sl.one (KXY.out.2).wr) (Sl.one (KXY.out.2).fr.sl)) (fun w4 m4 hs4 hb4 => ?_) planT_end
    have E4 : Ext w0 w4 := Mod.trans' E3 m4 (fun q hq => .inr (by obtain ⟨z1a, z1b, -, z1e, z1y, z1p⟩ := HG1.out; have z1f := z1e.size; have z1g := z1y.size; have z1q := z1p.size; obtain ⟨z2a, z2b, -, z2e, z2y, z2p⟩ := HG2.out; have z2f := z2e.size; have z2g := z2y.size; have z2q := z2p.size; have sy1 := y1.size; have sy2 := y2.size; subst hq; omega))
    have HG4 := Lib.hid (And.intro hs4 (And.intro hb4 m4))
    clear hs4 hb4
    refine ⟨fun _ => KF2.out _ E4, ?_⟩
    (try simp only [Act.put])
    refine planT_nil ?_
    go_wp2_with fail
    go_meet
    exact ⟨g1, g2, rfl, rfl, ⟨(Mod.blk m4 HG3.out.2.1 (by obtain ⟨z1a, z1b, -, z1e, z1y, z1p⟩ := HG1.out; have z1f := z1e.size; have z1g := z1y.size; have z1q := z1p.size; obtain ⟨z2a, z2b, -, z2e, z2y, z2p⟩ := HG2.out; have z2f := z2e.size; have z2g := z2y.size; have z2q := z2p.size; have sy1 := y1.size; have sy2 := y2.size; omega))⟩, ⟨HG4.out.2.1⟩, E4⟩
  refine planT_alloc rfl rfl (fun w => Tryz.zeroValue70 w) rfl (fun g5 w5 y5 hg5 hs5 hb5 => ?_) planT_end
  have E5 : Ext w0 w5 := Mod.trans ED y5
  have HG5 := Lib.hid (And.intro hg5 (And.intro hs5 (And.intro hb5 (And.intro E5 (And.intro y5 ED)))))
  clear hg5 hs5 hb5
  refine ⟨fun _ => KF2.out _ E5, ?_⟩
  (try simp only [Act.put, List.setIfInBounds_toArray, List.set_cons_zero, List.set_cons_succ])
  refine planT_fork ?_
  refine planT_alloc rfl rfl (fun w => Tryz.zeroValue70 w) rfl (fun g6 w6 y6 hg6 hs6 hb6 => ?_) planT_end
  have E6 : Ext w0 w6 := Mod.trans E5 y6
  have HG6 := Lib.hid (And.intro hg6 (And.intro hs6 (And.intro hb6 (And.intro E6 (And.intro y6 E5)))))
  clear hg6 hs6 hb6
  refine ⟨fun _ => KF2.out _ E6, ?_⟩
  (try simp only [Act.put, List.setIfInBounds_toArray, List.set_cons_zero, List.set_cons_succ])
  refine planT_fork ?_
  refine planT_store rfl rfl rfl rfl (HG6.out.2.2.1) (by kernel_rfl) rfl (evArr_all (Sl.one (KXY.out.1).rd) (Sl.one (KXY.out.1).wr) (Sl.one (KXY.out.1).fr.sl)) (fun w7 m7 hs7 hb7 => ?_) planT_end
  have E7 : Ext w0 w7 := Mod.trans' E6 m7 (fun q hq => .inr (by obtain ⟨z5a, z5b, -, z5e, z5y, z5p⟩ := HG5.out; have z5f := z5e.size; have z5g := z5y.size; have z5q := z5p.size; obtain ⟨z6a, z6b, -, z6e, z6y, z6p⟩ := HG6.out; have z6f := z6e.size; have z6g := z6y.size; have z6q := z6p.size; have sy5 := y5.size; have sy6 := y6.size; subst hq; omega))
  have HG7 := Lib.hid (And.intro hs7 (And.intro hb7 m7))
  clear hs7 hb7
  refine ⟨fun _ => KF2.out _ E7, ?_⟩
  (try simp only [Act.put])
  refine planT_fork ?_
  refine planT_store rfl rfl rfl rfl ((Mod.blk m7 (Ext.blk y6 HG5.out.2.2.1) (by obtain ⟨z5a, z5b, -, z5e, z5y, z5p⟩ := HG5.out; have z5f := z5e.size; have z5g := z5y.size; have z5q := z5p.size; obtain ⟨z6a, z6b, -, z6e, z6y, z6p⟩ := HG6.out; have z6f := z6e.size; have z6g := z6y.size; have z6q := z6p.size; have sy5 := y5.size; have sy6 := y6.size; omega))) (by kernel_rfl) rfl (evArr_all (Sl.one (KXY.out.2).rd) (Sl.one (KXY.out.2).wr) (Sl.one (KXY.out.2).fr.sl)) (fun w8 m8 hs8 hb8 => ?_) planT_end
  have E8 : Ext w0 w8 := Mod.trans' E7 m8 (fun q hq => .inr (by obtain ⟨z5a, z5b, -, z5e, z5y, z5p⟩ := HG5.out; have z5f := z5e.size; have z5g := z5y.size; have z5q := z5p.size; obtain ⟨z6a, z6b, -, z6e, z6y, z6p⟩ := HG6.out; have z6f := z6e.size; have z6g := z6y.size; have z6q := z6p.size; have sy5 := y5.size; have sy6 := y6.size; subst hq; omega))
  have HG8 := Lib.hid (And.intro hs8 (And.intro hb8 m8))
  clear hs8 hb8
  refine ⟨fun _ => KF2.out _ E8, ?_⟩
  (try simp only [Act.put])
  refine planT_nil ?_
  go_wp2_with fail
  go_meet
  exact ⟨g6, g5, rfl, rfl, ⟨(Mod.blk m8 HG7.out.2.1 (by obtain ⟨z5a, z5b, -, z5e, z5y, z5p⟩ := HG5.out; have z5f := z5e.size; have z5g := z5y.size; have z5q := z5p.size; obtain ⟨z6a, z6b, -, z6e, z6y, z6p⟩ := HG6.out; have z6f := z6e.size; have z6g := z6y.size; have z6q := z6p.size; have sy5 := y5.size; have sy6 := y6.size; omega))⟩, ⟨HG8.out.2.1⟩, E8⟩
 case rest =>
  obtain ⟨b1, b2, rfl, rfl, hc, KB⟩ := hcut.keep KXY.out.1 KXY.out.2
  rw [← HS.out.1, ← HS.out.2] at KB
  clear hcut i0 i1
  obtain ⟨⟨d0, d1, d2, d3, d4, d5, d6, d7, d8, d9⟩, ⟨f0, f1, f2, f3, f4, f5, f6, f7, f8, f9⟩, -⟩ := KB.out _ (Mod.refl _ _)
  go_wp2_with fail
  refine (overlap_any _ ⟨x.ag, x.kind, S1, x.nt, x.blk, x.at_, x.size, x.rd, x.wr, x.fr⟩ ⟨y.ag, y.kind, S2, y.nt, y.blk, y.at_, y.size, y.rd, y.wr, y.fr⟩ u v (KB.out _ (Mod.refl _ _)).2.2.1 (KB.out _ (Mod.refl _ _)).2.2.2).mono ?_
  rintro e v1 ⟨rfl, z1⟩
  have Z1 := Lib.hid (Mod.trans (Mod.refl _ _) z1)
  clear z1
  rw [show evOver ⟨x.ag, x.kind, S1, x.nt, x.blk, x.at_, x.size, x.rd, x.wr, x.fr⟩ ⟨y.ag, y.kind, S2, y.nt, y.blk, y.at_, y.size, y.rd, y.wr, y.fr⟩ = O from HO.out]
  (try clear d0 d1 d2 d3 d4 d5 d6 d7 d8 d9 f0 f1 f2 f3 f4 f5 f6 f7 f8 f9)
  obtain ⟨⟨d0, d1, d2, d3, d4, d5, d6, d7, d8, d9⟩, ⟨f0, f1, f2, f3, f4, f5, f6, f7, f8, f9⟩, -⟩ := KB.out _ Z1.out
  cases O with
  | false =>
   go_wp2_with fail
   go_ret
   exact ⟨ret_bool (by rw [HB.out]; rfl), (HW.out.2.2.trans hc).trans Z1.out⟩
  | true =>
   go_wp2_with fail
   refine (writes_any _ ⟨x.ag, x.kind, S1, x.nt, x.blk, x.at_, x.size, x.rd, x.wr, x.fr⟩ u (KB.out _ Z1.out).2.2.1).mono ?_
   rintro e v2 ⟨rfl, z2⟩
   have Z2 := Lib.hid (Mod.trans Z1.out z2)
   clear z2
   rw [show wrsB ⟨x.ag, x.kind, S1, x.nt, x.blk, x.at_, x.size, x.rd, x.wr, x.fr⟩ = WX from HWX.out]
   (try clear d0 d1 d2 d3 d4 d5 d6 d7 d8 d9 f0 f1 f2 f3 f4 f5 f6 f7 f8 f9)
   obtain ⟨⟨d0, d1, d2, d3, d4, d5, d6, d7, d8, d9⟩, ⟨f0, f1, f2, f3, f4, f5, f6, f7, f8, f9⟩, -⟩ := KB.out _ Z2.out
   cases WX with
   | true =>
    go_wp2_with fail
    refine (has_any _ p L.ev.length (hbB L) ((HR.out.ext (HW.out.2.2.trans hc)).ext Z2.out) a b).mono ?_
    rintro e v4 ⟨rfl, z4⟩
    have Z4 := Lib.hid (Mod.trans Z2.out z4)
    clear z4
    rw [hasB_nat hac hbc, HH1.out]
    (try clear d0 d1 d2 d3 d4 d5 d6 d7 d8 d9 f0 f1 f2 f3 f4 f5 f6 f7 f8 f9)
    obtain ⟨⟨d0, d1, d2, d3, d4, d5, d6, d7, d8, d9⟩, ⟨f0, f1, f2, f3, f4, f5, f6, f7, f8, f9⟩, -⟩ := KB.out _ Z4.out
    cases H1 with
    | true =>
     go_wp2_with fail
     go_ret
     exact ⟨ret_bool (by rw [HB.out]; rfl), (HW.out.2.2.trans hc).trans Z4.out⟩
    | false =>
     go_wp2_with fail
     refine (has_any _ p L.ev.length (hbB L) ((HR.out.ext (HW.out.2.2.trans hc)).ext Z4.out) b a).mono ?_
     rintro e v5 ⟨rfl, z5⟩
     have Z5 := Lib.hid (Mod.trans Z4.out z5)
     clear z5
     rw [hasB_nat hbc hac, HH2.out]
     (try clear d0 d1 d2 d3 d4 d5 d6 d7 d8 d9 f0 f1 f2 f3 f4 f5 f6 f7 f8 f9)
     obtain ⟨⟨d0, d1, d2, d3, d4, d5, d6, d7, d8, d9⟩, ⟨f0, f1, f2, f3, f4, f5, f6, f7, f8, f9⟩, -⟩ := KB.out _ Z5.out
     cases H2 with
     | true =>
      go_wp2_with fail
      go_ret
      exact ⟨ret_bool (by rw [HB.out]; rfl), (HW.out.2.2.trans hc).trans Z5.out⟩
     | false =>
      cases S1 with
      | false =>
       go_wp2_with fail
       go_ret
       exact ⟨ret_bool (by rw [HB.out]; rfl), (HW.out.2.2.trans hc).trans Z5.out⟩
      | true =>
       cases S2 with
       | false =>
        go_wp2_with fail
        go_ret
        exact ⟨ret_bool (by rw [HB.out]; rfl), (HW.out.2.2.trans hc).trans Z5.out⟩
       | true =>
        go_wp2_with fail
        refine (equal_any _ ⟨x.ag, x.kind, true, x.nt, x.blk, x.at_, x.size, x.rd, x.wr, x.fr⟩ ⟨y.ag, y.kind, true, y.nt, y.blk, y.at_, y.size, y.rd, y.wr, y.fr⟩ u v (KB.out _ Z5.out).2.2.1 (KB.out _ Z5.out).2.2.2).mono ?_
        rintro e v6 ⟨rfl, z6⟩
        have Z6 := Lib.hid (Mod.trans Z5.out z6)
        clear z6
        rw [show evEq ⟨x.ag, x.kind, true, x.nt, x.blk, x.at_, x.size, x.rd, x.wr, x.fr⟩ ⟨y.ag, y.kind, true, y.nt, y.blk, y.at_, y.size, y.rd, y.wr, y.fr⟩ = Q from HQ.out]
        (try clear d0 d1 d2 d3 d4 d5 d6 d7 d8 d9 f0 f1 f2 f3 f4 f5 f6 f7 f8 f9)
        obtain ⟨⟨d0, d1, d2, d3, d4, d5, d6, d7, d8, d9⟩, ⟨f0, f1, f2, f3, f4, f5, f6, f7, f8, f9⟩, -⟩ := KB.out _ Z6.out
        cases Q with
        | false =>
         go_wp2_with fail
         go_ret
         exact ⟨ret_bool (by rw [HB.out]; rfl), (HW.out.2.2.trans hc).trans Z6.out⟩
        | true =>
         go_wp2_with fail
         go_ret
         exact ⟨ret_bool (by rw [HB.out]; rfl), (HW.out.2.2.trans hc).trans Z6.out⟩
   | false =>
    go_wp2_with fail
    refine (writes_any _ ⟨y.ag, y.kind, S2, y.nt, y.blk, y.at_, y.size, y.rd, y.wr, y.fr⟩ v (KB.out _ Z2.out).2.2.2).mono ?_
    rintro e v3 ⟨rfl, z3⟩
    have Z3 := Lib.hid (Mod.trans Z2.out z3)
    clear z3
    rw [show wrsB ⟨y.ag, y.kind, S2, y.nt, y.blk, y.at_, y.size, y.rd, y.wr, y.fr⟩ = WY from HWY.out]
    (try clear d0 d1 d2 d3 d4 d5 d6 d7 d8 d9 f0 f1 f2 f3 f4 f5 f6 f7 f8 f9)
    obtain ⟨⟨d0, d1, d2, d3, d4, d5, d6, d7, d8, d9⟩, ⟨f0, f1, f2, f3, f4, f5, f6, f7, f8, f9⟩, -⟩ := KB.out _ Z3.out
    cases WY with
    | false =>
     go_wp2_with fail
     go_ret
     exact ⟨ret_bool (by rw [HB.out]; rfl), (HW.out.2.2.trans hc).trans Z3.out⟩
    | true =>
     go_wp2_with fail
     refine (has_any _ p L.ev.length (hbB L) ((HR.out.ext (HW.out.2.2.trans hc)).ext Z3.out) a b).mono ?_
     rintro e v4 ⟨rfl, z4⟩
     have Z4 := Lib.hid (Mod.trans Z3.out z4)
     clear z4
     rw [hasB_nat hac hbc, HH1.out]
     (try clear d0 d1 d2 d3 d4 d5 d6 d7 d8 d9 f0 f1 f2 f3 f4 f5 f6 f7 f8 f9)
     obtain ⟨⟨d0, d1, d2, d3, d4, d5, d6, d7, d8, d9⟩, ⟨f0, f1, f2, f3, f4, f5, f6, f7, f8, f9⟩, -⟩ := KB.out _ Z4.out
     cases H1 with
     | true =>
      go_wp2_with fail
      go_ret
      exact ⟨ret_bool (by rw [HB.out]; rfl), (HW.out.2.2.trans hc).trans Z4.out⟩
     | false =>
      go_wp2_with fail
      refine (has_any _ p L.ev.length (hbB L) ((HR.out.ext (HW.out.2.2.trans hc)).ext Z4.out) b a).mono ?_
      rintro e v5 ⟨rfl, z5⟩
      have Z5 := Lib.hid (Mod.trans Z4.out z5)
      clear z5
      rw [hasB_nat hbc hac, HH2.out]
      (try clear d0 d1 d2 d3 d4 d5 d6 d7 d8 d9 f0 f1 f2 f3 f4 f5 f6 f7 f8 f9)
      obtain ⟨⟨d0, d1, d2, d3, d4, d5, d6, d7, d8, d9⟩, ⟨f0, f1, f2, f3, f4, f5, f6, f7, f8, f9⟩, -⟩ := KB.out _ Z5.out
      cases H2 with
      | true =>
       go_wp2_with fail
       go_ret
       exact ⟨ret_bool (by rw [HB.out]; rfl), (HW.out.2.2.trans hc).trans Z5.out⟩
      | false =>
       cases S1 with
       | false =>
        go_wp2_with fail
        go_ret
        exact ⟨ret_bool (by rw [HB.out]; rfl), (HW.out.2.2.trans hc).trans Z5.out⟩
       | true =>
        cases S2 with
        | false =>
         go_wp2_with fail
         go_ret
         exact ⟨ret_bool (by rw [HB.out]; rfl), (HW.out.2.2.trans hc).trans Z5.out⟩
        | true =>
         go_wp2_with fail
         refine (equal_any _ ⟨x.ag, x.kind, true, x.nt, x.blk, x.at_, x.size, x.rd, x.wr, x.fr⟩ ⟨y.ag, y.kind, true, y.nt, y.blk, y.at_, y.size, y.rd, y.wr, y.fr⟩ u v (KB.out _ Z5.out).2.2.1 (KB.out _ Z5.out).2.2.2).mono ?_
         rintro e v6 ⟨rfl, z6⟩
         have Z6 := Lib.hid (Mod.trans Z5.out z6)
         clear z6
         rw [show evEq ⟨x.ag, x.kind, true, x.nt, x.blk, x.at_, x.size, x.rd, x.wr, x.fr⟩ ⟨y.ag, y.kind, true, y.nt, y.blk, y.at_, y.size, y.rd, y.wr, y.fr⟩ = Q from HQ.out]
         (try clear d0 d1 d2 d3 d4 d5 d6 d7 d8 d9 f0 f1 f2 f3 f4 f5 f6 f7 f8 f9)
         obtain ⟨⟨d0, d1, d2, d3, d4, d5, d6, d7, d8, d9⟩, ⟨f0, f1, f2, f3, f4, f5, f6, f7, f8, f9⟩, -⟩ := KB.out _ Z6.out
         cases Q with
         | false =>
          go_wp2_with fail
          go_ret
          exact ⟨ret_bool (by rw [HB.out]; rfl), (HW.out.2.2.trans hc).trans Z6.out⟩
         | true =>
          go_wp2_with fail
          go_ret
          exact ⟨ret_bool (by rw [HB.out]; rfl), (HW.out.2.2.trans hc).trans Z6.out⟩
end Go.Proofs.YtbhocahmhmafmaaGreat
namespace Go.Ren
set_option linter.unusedVariables false
theorem rowC_start (L : Lg) (a : Nat) : rowP (cfR L) a (a + 1) = [] := by
 unfold rowP
 rw [List.map_eq_nil_iff, List.filter_eq_nil_iff]
 intro b hb
 rw [List.mem_range] at hb
 intro hr
 have := cfR_lt _ _ hr
 omega
theorem cfR_unB {L : Lg} {a b : Nat} (h : a < b) : cfR L a b = unB L a b := by unfold cfR; simp [h]
end Go.Ren
namespace Go.Proofs.YtbhocahmhmafmaaGreat
open Go.Ren Go.RowKit
set_option linter.unusedVariables false
def PListPost (l : List (Int × Int)) (w : World) (e : Ending) (w' : World) : Prop := ∃ v, e = .returned v ∧ PairsOwn w' v l ∧ Ext w w' ∧ ∀ q, v.ownBlock = some q → w.heap.size ≤ q
set_option maxRecDepth 100000 in
set_option maxHeartbeats 800000 in
theorem conflicts_any (w : World) (ve vp : Value) (V : Nat → Vs) (L : Lg) (h : LogIn w ve vp V L) (hl : L.ev.length ≤ 64) :
 Calls Tryz.prog 21 #[.agg #[ve, vp]] w (PListPost (cfL L) w) := by
 have HLE := Lib.hid hl
 have hle : (L.ev.length : Int) ≤ 64 := by omega
 have HLEN : Hid (∀ a b, a < L.ev.length → b < L.ev.length → (listP (cfR L) L.ev.length a ++ rowP (cfR L) a b).length ≤ 5000) := Lib.hid fun a b ha hb => by
  rw [List.length_append]
  have h1 := listP_len (cfR L) hl a
  have h2 := rowP_len (cfR L) a b
  omega
 clear hl
 have q1 := Sl.cells_eq h.row
 have q2 := Sl.cells_eq h.prow
 have s1 := Sl.run_st (P := Tryz.prog) h.row
 have s2 := Sl.run_st (P := Tryz.prog) h.prow
 obtain ⟨w0, hw0⟩ : ∃ w0, w0 = w.alloc (.cells #[ve, vp] 48) := ⟨_, rfl⟩
 obtain ⟨g0, hg0⟩ : ∃ g, g = w.heap.size := ⟨_, rfl⟩
 have x0 : Ext w w0 := by rw [hw0]; exact (Mod.refl _ _).alloc _
 have b0 : LogBox w0 g0 ve vp := ⟨by rw [hw0, hg0]; exact heap_alloc_new _ _⟩
 have HW := Lib.hid (And.intro hw0 (And.intro hg0 x0))
 have KE : Hid (∀ w', Ext w0 w' → LogIn w' ve vp V L ∧ LogBox w' g0 ve vp) := Lib.hid fun w' x => ⟨h.ext (x0.trans x), b0.ext x⟩
 have HI := Lib.hid (h.row.run_idx (P := Tryz.prog) IEv.und IEv.size .i64)
 have HJ := Lib.hid (h.prow.run_idx (P := Tryz.prog) IP.und IP.size .i64)
 have l1 := h.row.run_len (P := Tryz.prog) IEv.und 3
 have l2 := h.prow.run_len (P := Tryz.prog) IP.und 3
 obtain ⟨c0, c1⟩ := b0.cells
 clear hw0 hg0 x0 b0 h
 go_enter Tryz.func21, Tryz.ntmps21
 go_upto_region 1 with fail
 rw [← HW.out.1, ← HW.out.2.1]
 clear s1 s2
 go_wp2_with fail
 refine (may_any _ ve vp V L (KE.out _ (Mod.refl _ _)).1).mono ?_
 rintro e w1 ⟨rfl, y1⟩
 clear c0 c1
 cases hm : mayL L with
 | false =>
  have HC : Hid (cfL L = []) := Lib.hid (by unfold cfL; rw [hm]; rfl)
  clear hm
  go_wp2_with fail
  go_ret
  refine ⟨_, rfl, ?_, HW.out.2.2.trans y1, fun q hq => by cases hq⟩
  rw [HC.out]
  exact Own.nil _ _ _
 | true =>
  have HM := Lib.hid hm
  have HC : Hid (cfL L = listP (cfR L) L.ev.length L.ev.length) := Lib.hid (by unfold cfL listR; rw [hm]; rfl)
  clear hm
  obtain ⟨c0, c1⟩ := (KE.out _ y1).2.cells
  go_wp2_with fail
  refine (rbefore_any _ ve vp V L (KE.out _ y1).1 HLE.out).mono ?_
  rintro e w2 h2
  obtain ⟨pr, rfl, r2, y2⟩ := rpost_is h2
  rw [relN_may HM.out] at r2
  have HR2 := Lib.hid r2
  have HX2 := Lib.hid (y1.trans y2)
  clear h2 r2 c0 c1
  obtain ⟨c0, c1⟩ := (KE.out _ HX2.out).2.cells
  go_wp2_with fail
  clear c0 c1
  go_loopw [3, 15] (fun s3 s15 wr => ∃ a : Nat, a ≤ L.ev.length ∧ s15 = .int .i64 (a : Int) ∧ PairsOwn wr s3 (listP (cfR L) L.ev.length a) ∧ Ext w2 wr ∧ ∀ q, s3.ownBlock = some q → w2.heap.size ≤ q) (fun _ s _ => L.ev.length - (intOf s).toNat)
  case atStart => exact ⟨0, Nat.zero_le _, rfl, Own.nil _ _ _, Mod.refl _ _, fun q hq => by cases hq⟩
  case round =>
   obtain ⟨a, ha, rfl, ho, x, hf⟩ := hrel
   have H := Lib.hid (And.intro ho (And.intro x hf))
   clear ho x hf
   by_cases hlt : a < L.ev.length
   · have hlt' : (a : Int) < (L.ev.length : Int) := by omega
     have R1 : Hid (PairsOwn wr u3 (listP (cfR L) L.ev.length a ++ rowP (cfR L) a (a + 1))) := Lib.hid (by rw [rowC_start, List.append_nil]; exact H.out.1)
     go_wp2_with fail
     go_loopw [3, 6] (fun s3 s6 wr => ∃ b : Nat, a < b ∧ b ≤ L.ev.length ∧ s6 = .int .i64 (b : Int) ∧ PairsOwn wr s3 (listP (cfR L) L.ev.length a ++ rowP (cfR L) a b) ∧ Ext w2 wr ∧ ∀ q, s3.ownBlock = some q → w2.heap.size ≤ q) (fun _ s _ => L.ev.length - (intOf s).toNat)
     case atStart => exact ⟨a + 1, by omega, by omega, by go_num, R1.out, H.out.2.1, H.out.2.2⟩
     case round =>
      obtain ⟨b, hab, hb, rfl, ho, x, hf⟩ := hrel
      have H2 := Lib.hid (And.intro ho (And.intro x hf))
      obtain ⟨c0, c1⟩ := (KE.out _ (HX2.out.trans x)).2.cells
      clear ho x hf R1
      by_cases hbl : b < L.ev.length
      · have hbl' : (b : Int) < (L.ev.length : Int) := by omega
        go_wp2_with fail
        refine (unord_any _ ve vp V L (KE.out _ (HX2.out.trans H2.out.2.1)).1 _ (HR2.out.ext H2.out.2.1) a b hlt hbl).mono ?_
        rintro e w3 ⟨rfl, y3⟩
        clear c0 c1
        rw [← cfR_unB hab]
        cases hq : cfR L a b with
        | false =>
         have HN := Lib.hid (rowP_no hq)
         clear hq
         go_wp2_with fail
         go_roundw
         case rel => exact ⟨b + 1, by omega, by omega, by go_num, by rw [HN.out]; exact H2.out.1.ext y3, H2.out.2.1.trans y3, H2.out.2.2⟩
         case measure => simp [intOf]; omega
        | true =>
         have HN := Lib.hid (rowP_yes hq)
         have hlen := HLEN.out a b hlt hbl
         clear hq
         go_wp2_with (at_builtin; go_loud (refine wpList_app IP rfl (.tmp 32) (.tmp 36) rfl ((H2.out.1.ext y3).ext (Mod.alloc (Mod.refl _ _) _)) (built_sl (n := 1) (g := w3.heap.size) (e := 112) (cs := #[.int .i64 (a : Int), .int .i64 (b : Int)]) (by simp only [heap_alloc_if, if_true]) rfl (by simp only [maxLen]; omega)) (one2i _ _) (by simp [Act.eval]) (by simp [Act.eval]) (by omega) (by simp only [maxLen]; omega) ?_); intro lv' w4 ol2 gr2 fr2 nn2; have HH := Lib.hid (And.intro ol2 (And.intro gr2 fr2)); clear ol2 gr2 fr2 nn2)
         go_roundw
         case rel =>
          obtain ⟨ol2, gr2, fr2⟩ := HH.out
          have M2 : Mod (fun q => u3.ownBlock = some q) w3 w4 := Mod.grown (Mod.alloc (Mod.refl _ _) _) gr2 (fun q h => .inl h)
          obtain ⟨p1, p2, p3⟩ := pairs_more (H2.out.2.1.trans y3) H2.out.2.2 ol2 M2 (fun q hq => by
           rcases fr2 q hq with h | h
           · exact .inl h
           · simp only [World.size_alloc] at h; exact .inr (by omega))
          exact ⟨b + 1, by omega, by omega, by go_num, by rw [HN.out, ← List.append_assoc]; exact p1, p2, p3⟩
         case measure => simp [intOf]; omega
      · have hbl' : ¬ (b : Int) < (L.ev.length : Int) := by omega
        have HB : Hid (b = L.ev.length) := Lib.hid (by omega)
        go_wp2_with fail
        go_roundw
        case rel => exact ⟨a + 1, by omega, by go_num, by have hb := HB.out; have h := H2.out.1; rw [hb] at h; rw [listP_succ]; exact h, H2.out.2.1, H2.out.2.2⟩
        case measure => simp [intOf]; omega
   · have hlt' : ¬ (a : Int) < (L.ev.length : Int) := by omega
     have HA : Hid (a = L.ev.length) := Lib.hid (by omega)
     go_wp2_with fail
     go_ret
     exact ⟨_, rfl, by have ha := HA.out; have h := H.out.1; rw [ha] at h; rw [HC.out]; exact h, HW.out.2.2.trans (HX2.out.trans H.out.2.1), fun q hq => by have h1 := H.out.2.2 q hq; have h2 := HX2.out.size; have h3 := HW.out.2.2.size; omega⟩
end Go.Proofs.YtbhocahmhmafmaaGreat
