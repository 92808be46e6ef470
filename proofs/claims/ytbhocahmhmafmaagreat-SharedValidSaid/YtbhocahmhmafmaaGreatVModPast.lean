/-
  The contract of model.past. No condition.
-/
import Derived.Test.YtbhocahmhmafmaaGreatVModOrd
namespace Go.Proofs.YtbhocahmhmafmaaGreat
open Go.Ren Go.RowKit
set_option linter.unusedVariables false
def ThreeEv (w0 : World) (x y z : Ev) (u v t : Vs) (s1 s2 s3 : Value) (wq : World) : Prop := ∃ g1 g2 g3, s1 = .pointer (some ⟨g1, 0, none⟩) ∧ s2 = .pointer (some ⟨g2, 0, none⟩) ∧ s3 = .pointer (some ⟨g3, 0, none⟩) ∧ EvBox wq g1 x u ∧ EvBox wq g2 y v ∧ EvBox wq g3 z t ∧ Ext w0 wq
theorem ThreeEv.keep {w0 : World} {x y z : Ev} {u v t : Vs} {s1 s2 s3 : Value} {wq : World} (h : ThreeEv w0 x y z u v t s1 s2 s3 wq) (hx : EvAt w0 x u) (hy : EvAt w0 y v) (hz : EvAt w0 z t) : ∃ b1 b2 b3, s1 = .pointer (some ⟨b1, 0, none⟩) ∧ s2 = .pointer (some ⟨b2, 0, none⟩) ∧ s3 = .pointer (some ⟨b3, 0, none⟩) ∧ Ext w0 wq ∧
 Hid (∀ w', Ext wq w' → (w'.cell? ⟨b1, 0, none⟩ = some (.int .i64 (x).ag) ∧ w'.cell? ⟨b1, 1, none⟩ = some (.int .i64 (x).kind) ∧ w'.cell? ⟨b1, 2, none⟩ = some (.bool (x).seq) ∧ w'.cell? ⟨b1, 3, none⟩ = some (.bool (x).nt) ∧ w'.cell? ⟨b1, 4, none⟩ = some (.int .i64 (x).blk) ∧ w'.cell? ⟨b1, 5, none⟩ = some (.int .i64 (x).at_) ∧ w'.cell? ⟨b1, 6, none⟩ = some (.int .i64 (x).size) ∧ w'.cell? ⟨b1, 7, none⟩ = some u.r ∧ w'.cell? ⟨b1, 8, none⟩ = some u.w ∧ w'.cell? ⟨b1, 9, none⟩ = some u.f) ∧ (w'.cell? ⟨b2, 0, none⟩ = some (.int .i64 (y).ag) ∧ w'.cell? ⟨b2, 1, none⟩ = some (.int .i64 (y).kind) ∧ w'.cell? ⟨b2, 2, none⟩ = some (.bool (y).seq) ∧ w'.cell? ⟨b2, 3, none⟩ = some (.bool (y).nt) ∧ w'.cell? ⟨b2, 4, none⟩ = some (.int .i64 (y).blk) ∧ w'.cell? ⟨b2, 5, none⟩ = some (.int .i64 (y).at_) ∧ w'.cell? ⟨b2, 6, none⟩ = some (.int .i64 (y).size) ∧ w'.cell? ⟨b2, 7, none⟩ = some v.r ∧ w'.cell? ⟨b2, 8, none⟩ = some v.w ∧ w'.cell? ⟨b2, 9, none⟩ = some v.f) ∧ (w'.cell? ⟨b3, 0, none⟩ = some (.int .i64 (z).ag) ∧ w'.cell? ⟨b3, 1, none⟩ = some (.int .i64 (z).kind) ∧ w'.cell? ⟨b3, 2, none⟩ = some (.bool (z).seq) ∧ w'.cell? ⟨b3, 3, none⟩ = some (.bool (z).nt) ∧ w'.cell? ⟨b3, 4, none⟩ = some (.int .i64 (z).blk) ∧ w'.cell? ⟨b3, 5, none⟩ = some (.int .i64 (z).at_) ∧ w'.cell? ⟨b3, 6, none⟩ = some (.int .i64 (z).size) ∧ w'.cell? ⟨b3, 7, none⟩ = some t.r ∧ w'.cell? ⟨b3, 8, none⟩ = some t.w ∧ w'.cell? ⟨b3, 9, none⟩ = some t.f) ∧ EvAt w' ⟨x.ag, x.kind, x.seq, x.nt, x.blk, x.at_, x.size, x.rd, x.wr, x.fr⟩ u ∧ EvAt w' ⟨y.ag, y.kind, y.seq, y.nt, y.blk, y.at_, y.size, y.rd, y.wr, y.fr⟩ v ∧ EvAt w' ⟨z.ag, z.kind, z.seq, z.nt, z.blk, z.at_, z.size, z.rd, z.wr, z.fr⟩ t) := by
 obtain ⟨b1, b2, b3, e1, e2, e3, h1, h2, h3, h4⟩ := h
 exact ⟨b1, b2, b3, e1, e2, e3, h4, Lib.hid fun w' k => ⟨(h1.ext k).cells, (h2.ext k).cells, (h3.ext k).cells, hx.ext (h4.trans k), hy.ext (h4.trans k), hz.ext (h4.trans k)⟩⟩
set_option maxRecDepth 100000 in
set_option maxHeartbeats 3200000 in
theorem past_any (w : World) (ve vp : Value) (V : Nat → Vs) (L : Lg) (h : LogIn w ve vp V L) (ps ph : Value) (hs : RelIs w ps L.ev.length (synB L)) (hh : RelIs w ph L.ev.length (hbB L)) (p q r : Nat) (hp : p < L.ev.length) (hq : q < L.ev.length) (hr : r < L.ev.length) :
 Calls Tryz.prog 138 #[.agg #[ve, vp], ps, ph, .int .i64 (p : Int), .int .i64 (q : Int), .int .i64 (r : Int)] w (FPost (pastB L p q r) w) := by
 have q1 := Sl.cells_eq h.row
 have q2 := Sl.cells_eq h.prow
 have s1 := Sl.run_st (P := Tryz.prog) h.row
 have s2 := Sl.run_st (P := Tryz.prog) h.prow
 have i0 := h.row.run_idx (P := Tryz.prog) IEv.und IEv.size .i64 p hp
 have i1 := h.row.run_idx (P := Tryz.prog) IEv.und IEv.size .i64 q hq
 have i2 := h.row.run_idx (P := Tryz.prog) IEv.und IEv.size .i64 r hr
 obtain ⟨B, hB⟩ : ∃ B, B = pastB L p q r := ⟨_, rfl⟩
 rw [← hB]
 obtain ⟨x, hx⟩ : ∃ e, e = evn L.ev p := ⟨_, rfl⟩
 obtain ⟨u, hu⟩ : ∃ v, v = V p := ⟨_, rfl⟩
 obtain ⟨y, hy⟩ : ∃ e, e = evn L.ev q := ⟨_, rfl⟩
 obtain ⟨v, hv⟩ : ∃ v, v = V q := ⟨_, rfl⟩
 obtain ⟨z, hz⟩ : ∃ e, e = evn L.ev r := ⟨_, rfl⟩
 obtain ⟨t, ht⟩ : ∃ v, v = V r := ⟨_, rfl⟩
 obtain ⟨A1, hA1⟩ : ∃ A, A = at_ ve (p * 10) := ⟨_, rfl⟩
 obtain ⟨A2, hA2⟩ : ∃ A, A = at_ ve (q * 10) := ⟨_, rfl⟩
 obtain ⟨A3, hA3⟩ : ∃ A, A = at_ ve (r * 10) := ⟨_, rfl⟩
 rw [← hA1] at i0
 rw [← hA2] at i1
 rw [← hA3] at i2
 obtain ⟨w0, hw0⟩ : ∃ w0, w0 = w.alloc (.cells #[ve, vp] 48) := ⟨_, rfl⟩
 obtain ⟨g0, hg0⟩ : ∃ g, g = w.heap.size := ⟨_, rfl⟩
 have x0 : Ext w w0 := by rw [hw0]; exact (Mod.refl _ _).alloc _
 have b0 : LogBox w0 g0 ve vp := ⟨by rw [hw0, hg0]; exact heap_alloc_new _ _⟩
 have HW := Lib.hid (And.intro hw0 (And.intro hg0 x0))
 have KXY : Hid (EvAt w0 x u ∧ EvAt w0 y v ∧ EvAt w0 z t) := Lib.hid ⟨by rw [hx, hu]; exact (h.ext x0).ev p hp, by rw [hy, hv]; exact (h.ext x0).ev q hq, by rw [hz, ht]; exact (h.ext x0).ev r hr⟩
 have KF2 : Hid (∀ w', Ext w0 w' → w'.cell? ⟨g0, 0, none⟩ = some ve ∧ w'.cell? A1 = some (.int .i64 (x).ag) ∧ w'.cell? ⟨A1.block, A1.off + 1, none⟩ = some (.int .i64 (x).kind) ∧ w'.cell? ⟨A1.block, A1.off + 2, none⟩ = some (.bool (x).seq) ∧ w'.cell? ⟨A1.block, A1.off + 3, none⟩ = some (.bool (x).nt) ∧ w'.cell? ⟨A1.block, A1.off + 4, none⟩ = some (.int .i64 (x).blk) ∧ w'.cell? ⟨A1.block, A1.off + 5, none⟩ = some (.int .i64 (x).at_) ∧ w'.cell? ⟨A1.block, A1.off + 6, none⟩ = some (.int .i64 (x).size) ∧ w'.cell? ⟨A1.block, A1.off + 7, none⟩ = some u.r ∧ w'.cell? ⟨A1.block, A1.off + 8, none⟩ = some u.w ∧ w'.cell? ⟨A1.block, A1.off + 9, none⟩ = some u.f ∧ w'.cell? A2 = some (.int .i64 (y).ag) ∧ w'.cell? ⟨A2.block, A2.off + 1, none⟩ = some (.int .i64 (y).kind) ∧ w'.cell? ⟨A2.block, A2.off + 2, none⟩ = some (.bool (y).seq) ∧ w'.cell? ⟨A2.block, A2.off + 3, none⟩ = some (.bool (y).nt) ∧ w'.cell? ⟨A2.block, A2.off + 4, none⟩ = some (.int .i64 (y).blk) ∧ w'.cell? ⟨A2.block, A2.off + 5, none⟩ = some (.int .i64 (y).at_) ∧ w'.cell? ⟨A2.block, A2.off + 6, none⟩ = some (.int .i64 (y).size) ∧ w'.cell? ⟨A2.block, A2.off + 7, none⟩ = some v.r ∧ w'.cell? ⟨A2.block, A2.off + 8, none⟩ = some v.w ∧ w'.cell? ⟨A2.block, A2.off + 9, none⟩ = some v.f ∧ w'.cell? A3 = some (.int .i64 (z).ag) ∧ w'.cell? ⟨A3.block, A3.off + 1, none⟩ = some (.int .i64 (z).kind) ∧ w'.cell? ⟨A3.block, A3.off + 2, none⟩ = some (.bool (z).seq) ∧ w'.cell? ⟨A3.block, A3.off + 3, none⟩ = some (.bool (z).nt) ∧ w'.cell? ⟨A3.block, A3.off + 4, none⟩ = some (.int .i64 (z).blk) ∧ w'.cell? ⟨A3.block, A3.off + 5, none⟩ = some (.int .i64 (z).at_) ∧ w'.cell? ⟨A3.block, A3.off + 6, none⟩ = some (.int .i64 (z).size) ∧ w'.cell? ⟨A3.block, A3.off + 7, none⟩ = some t.r ∧ w'.cell? ⟨A3.block, A3.off + 8, none⟩ = some t.w ∧ w'.cell? ⟨A3.block, A3.off + 9, none⟩ = some t.f) := Lib.hid fun w' k => by
  have h2 := (h.ext (x0.trans k)).cells hp
  have h3 := (h.ext (x0.trans k)).cells hq
  have h4 := (h.ext (x0.trans k)).cells hr
  rw [← hx, ← hu, ← hA1] at h2
  rw [← hy, ← hv, ← hA2] at h3
  rw [← hz, ← ht, ← hA3] at h4
  obtain ⟨a0, a1, a2, a3, a4, a5, a6, a7, a8, a9⟩ := h2
  obtain ⟨e0, e1, e2, e3, e4, e5, e6, e7, e8, e9⟩ := h3
  exact ⟨(b0.ext k).cells.1, a0, a1, a2, a3, a4, a5, a6, a7, a8, a9, e0, e1, e2, e3, e4, e5, e6, e7, e8, e9, h4⟩
 have HRS := Lib.hid hs
 have HRH := Lib.hid hh
 obtain ⟨S1, hS1⟩ : ∃ S, S = x.seq := ⟨_, rfl⟩
 obtain ⟨S2, hS2⟩ : ∃ S, S = y.seq := ⟨_, rfl⟩
 obtain ⟨S3, hS3⟩ : ∃ S, S = z.seq := ⟨_, rfl⟩
 obtain ⟨Q1, hQ1⟩ : ∃ Q, Q = evEq x y := ⟨_, rfl⟩
 obtain ⟨Q2, hQ2⟩ : ∃ Q, Q = evEq y z := ⟨_, rfl⟩
 obtain ⟨SY, hSY⟩ : ∃ O, O = synB L p r := ⟨_, rfl⟩
 obtain ⟨H1, hH1⟩ : ∃ O, O = hbB L p r := ⟨_, rfl⟩
 obtain ⟨H2, hH2⟩ : ∃ O, O = hbB L q r := ⟨_, rfl⟩
 obtain ⟨H3, hH3⟩ : ∃ O, O = hbB L p q := ⟨_, rfl⟩
 have HB : Hid (B = (if (SY && Q2) = true then true else if H1 = false then false else if (H2 && S1 && Q1) = true then true else H3 && S3 && Q2)) := Lib.hid (by rw [hB, hSY, hH1, hH2, hH3, hS1, hS3, hQ1, hQ2, hx, hy, hz]; rfl)
 have HSQ := Lib.hid (And.intro hS1 (And.intro hS2 hS3))
 have HQ1 := Lib.hid hQ1.symm
 have HQ2 := Lib.hid hQ2.symm
 have HSY := Lib.hid hSY.symm
 have HH1 := Lib.hid hH1.symm
 have HH2 := Lib.hid hH2.symm
 have HH3 := Lib.hid hH3.symm
 have k1 := (ev_facts KXY.out.1).1
 have k2 := (ev_facts KXY.out.1).2.1
 have k3 := (ev_facts KXY.out.1).2.2.1
 have k4 := (ev_facts KXY.out.2.1).1
 have k5 := (ev_facts KXY.out.2.1).2.1
 have k6 := (ev_facts KXY.out.2.1).2.2.1
 have k7 := (ev_facts KXY.out.2.2).1
 have k8 := (ev_facts KXY.out.2.2).2.1
 have k9 := (ev_facts KXY.out.2.2).2.2.1
 have hpl := hp
 have hql := hq
 have hrl := hr
 clear hw0 hg0 x0 b0 h hs hh hB hx hu hy hv hz ht hA1 hA2 hA3 hS1 hS2 hS3 hQ1 hQ2 hSY hH1 hH2 hH3 hp hq hr
 go_enter Tryz.func138, Tryz.ntmps138
 go_upto_region 1 with fail
 rw [← HW.out.1, ← HW.out.2.1]
 clear s1 s2
 go_cut [13, 14, 15] (fun s13 s14 s15 wq => ThreeEv w0 x y z u v t s13 s14 s15 wq)
 case first =>
  have ED : Ext w0 (World.drew w0) := Mod.drew (Mod.refl _ _)
  refine wp_region_planT [] (.take 0 0 (.take 1 0 (.take 2 0 (.take 3 0 (.take 4 0 (.take 5 0 (.take 6 0 (.take 7 0 (.take 8 0 (.take 9 0 (.take 10 0 (.take 11 0 (.take 12 0 (.take 13 0 (.take 14 0 (.fork (.alt 15 (.fork (.alt 16 (.fork (.alt 17 (.fork (.alt 18 (.fork (.alt 19 (.fork (.alt 20 .nil .noalt)) .noalt)) .noalt)) .noalt)) (.alt 17 (.fork (.alt 16 (.fork (.alt 18 (.fork (.alt 19 (.fork (.alt 20 .nil .noalt)) .noalt)) .noalt)) .noalt)) .noalt))) (.alt 16 (.fork (.alt 15 (.fork (.alt 17 (.fork (.alt 18 (.fork (.alt 19 (.fork (.alt 20 .nil .noalt)) .noalt)) .noalt)) .noalt)) (.alt 17 (.fork (.alt 15 (.fork (.alt 18 (.fork (.alt 19 (.fork (.alt 20 .nil .noalt)) .noalt)) .noalt)) .noalt)) .noalt))) (.alt 17 (.fork (.alt 15 (.fork (.alt 16 (.fork (.alt 18 (.fork (.alt 19 (.fork (.alt 20 .nil .noalt)) .noalt)) .noalt)) .noalt)) (.alt 16 (.fork (.alt 15 (.fork (.alt 18 (.fork (.alt 19 (.fork (.alt 20 .nil .noalt)) .noalt)) .noalt)) .noalt)) .noalt))) .noalt))))))))))))))))))) (fun w' => w'.cell? ⟨g0, 0, none⟩ = some ve ∧ w'.cell? A1 = some (.int .i64 (x).ag) ∧ w'.cell? ⟨A1.block, A1.off + 1, none⟩ = some (.int .i64 (x).kind) ∧ w'.cell? ⟨A1.block, A1.off + 2, none⟩ = some (.bool (x).seq) ∧ w'.cell? ⟨A1.block, A1.off + 3, none⟩ = some (.bool (x).nt) ∧ w'.cell? ⟨A1.block, A1.off + 4, none⟩ = some (.int .i64 (x).blk) ∧ w'.cell? ⟨A1.block, A1.off + 5, none⟩ = some (.int .i64 (x).at_) ∧ w'.cell? ⟨A1.block, A1.off + 6, none⟩ = some (.int .i64 (x).size) ∧ w'.cell? ⟨A1.block, A1.off + 7, none⟩ = some u.r ∧ w'.cell? ⟨A1.block, A1.off + 8, none⟩ = some u.w ∧ w'.cell? ⟨A1.block, A1.off + 9, none⟩ = some u.f ∧ w'.cell? A2 = some (.int .i64 (y).ag) ∧ w'.cell? ⟨A2.block, A2.off + 1, none⟩ = some (.int .i64 (y).kind) ∧ w'.cell? ⟨A2.block, A2.off + 2, none⟩ = some (.bool (y).seq) ∧ w'.cell? ⟨A2.block, A2.off + 3, none⟩ = some (.bool (y).nt) ∧ w'.cell? ⟨A2.block, A2.off + 4, none⟩ = some (.int .i64 (y).blk) ∧ w'.cell? ⟨A2.block, A2.off + 5, none⟩ = some (.int .i64 (y).at_) ∧ w'.cell? ⟨A2.block, A2.off + 6, none⟩ = some (.int .i64 (y).size) ∧ w'.cell? ⟨A2.block, A2.off + 7, none⟩ = some v.r ∧ w'.cell? ⟨A2.block, A2.off + 8, none⟩ = some v.w ∧ w'.cell? ⟨A2.block, A2.off + 9, none⟩ = some v.f ∧ w'.cell? A3 = some (.int .i64 (z).ag) ∧ w'.cell? ⟨A3.block, A3.off + 1, none⟩ = some (.int .i64 (z).kind) ∧ w'.cell? ⟨A3.block, A3.off + 2, none⟩ = some (.bool (z).seq) ∧ w'.cell? ⟨A3.block, A3.off + 3, none⟩ = some (.bool (z).nt) ∧ w'.cell? ⟨A3.block, A3.off + 4, none⟩ = some (.int .i64 (z).blk) ∧ w'.cell? ⟨A3.block, A3.off + 5, none⟩ = some (.int .i64 (z).at_) ∧ w'.cell? ⟨A3.block, A3.off + 6, none⟩ = some (.int .i64 (z).size) ∧ w'.cell? ⟨A3.block, A3.off + 7, none⟩ = some t.r ∧ w'.cell? ⟨A3.block, A3.off + 8, none⟩ = some t.w ∧ w'.cell? ⟨A3.block, A3.off + 9, none⟩ = some t.f) (by kernel_rfl) (by kernel_rfl) (by kernel_rfl) (fun _ d _ _ _ h => by cases d <;> exact h) (KF2.out _ ED) ?_
  simp (decide := true) only [planT, getO]
  iterate 15 (refine planT_take (v := ?_) (by rfl) (fun wS hS => ?_) ?_; rotate_left; (focus ((try dsimp only at hS); go_simp; (try with_reducible rfl); done)); (try simp only [Act.put, List.setIfInBounds_toArray, List.set_cons_zero, List.set_cons_succ]))
  refine planT_fork ?_
  refine planT_alloc rfl rfl (fun w => Tryz.zeroValue70 w) rfl (fun g1 w1 y1 hg1 hs1 hb1 => ?_) ?_
  · have E1 : Ext w0 w1 := Mod.trans ED y1
    have HG1 := Lib.hid (And.intro hg1 (And.intro hs1 (And.intro hb1 (And.intro E1 (And.intro y1 ED)))))
    clear hg1 hs1 hb1
    refine ⟨fun _ => KF2.out _ E1, ?_⟩
    (try simp only [Act.put, List.setIfInBounds_toArray, List.set_cons_zero, List.set_cons_succ])
    refine planT_fork ?_
    refine planT_alloc rfl rfl (fun w => Tryz.zeroValue70 w) rfl (fun g2 w2 y2 hg2 hs2 hb2 => ?_) ?_
    · have E2 : Ext w0 w2 := Mod.trans E1 y2
      have HG2 := Lib.hid (And.intro hg2 (And.intro hs2 (And.intro hb2 (And.intro E2 (And.intro y2 E1)))))
      clear hg2 hs2 hb2
      refine ⟨fun _ => KF2.out _ E2, ?_⟩
      (try simp only [Act.put, List.setIfInBounds_toArray, List.set_cons_zero, List.set_cons_succ])
      refine planT_fork ?_
      refine planT_alloc rfl rfl (fun w => Tryz.zeroValue70 w) rfl (fun g3 w3 y3 hg3 hs3 hb3 => ?_) planT_end
      have E3 : Ext w0 w3 := Mod.trans E2 y3
      have HG3 := Lib.hid (And.intro hg3 (And.intro hs3 (And.intro hb3 (And.intro E3 (And.intro y3 E2)))))
      clear hg3 hs3 hb3
      refine ⟨fun _ => KF2.out _ E3, ?_⟩
      (try simp only [Act.put, List.setIfInBounds_toArray, List.set_cons_zero, List.set_cons_succ])
      refine planT_fork ?_
      refine planT_store rfl rfl rfl rfl ((Ext.blk y3 (Ext.blk y2 HG1.out.2.2.1))) (by kernel_rfl) rfl (evArr_all (Sl.one (KXY.out.1).rd) (Sl.one (KXY.out.1).wr) (Sl.one (KXY.out.1).fr.sl)) (fun w4 m4 hs4 hb4 => ?_) planT_end
      have E4 : Ext w0 w4 := Mod.trans' E3 m4 (fun q hq => .inr (by obtain ⟨z1a, z1b, -, z1e, z1y, z1p⟩ := HG1.out; have z1f := z1e.size; have z1g := z1y.size; have z1q := z1p.size; obtain ⟨z2a, z2b, -, z2e, z2y, z2p⟩ := HG2.out; have z2f := z2e.size; have z2g := z2y.size; have z2q := z2p.size; obtain ⟨z3a, z3b, -, z3e, z3y, z3p⟩ := HG3.out; have z3f := z3e.size; have z3g := z3y.size; have z3q := z3p.size; have sy1 := y1.size; have sy2 := y2.size; have sy3 := y3.size; subst hq; omega))
      have HG4 := Lib.hid (And.intro hs4 (And.intro hb4 m4))
      clear hs4 hb4
      refine ⟨fun _ => KF2.out _ E4, ?_⟩
      (try simp only [Act.put])
      refine planT_fork ?_
      refine planT_store rfl rfl rfl rfl ((Mod.blk m4 (Ext.blk y3 HG2.out.2.2.1) (by obtain ⟨z1a, z1b, -, z1e, z1y, z1p⟩ := HG1.out; have z1f := z1e.size; have z1g := z1y.size; have z1q := z1p.size; obtain ⟨z2a, z2b, -, z2e, z2y, z2p⟩ := HG2.out; have z2f := z2e.size; have z2g := z2y.size; have z2q := z2p.size; obtain ⟨z3a, z3b, -, z3e, z3y, z3p⟩ := HG3.out; have z3f := z3e.size; have z3g := z3y.size; have z3q := z3p.size; have sy1 := y1.size; have sy2 := y2.size; have sy3 := y3.size; omega))) (by kernel_rfl) rfl (evArr_all (Sl.one (KXY.out.2.1).rd) (Sl.one (KXY.out.2.1).wr) (Sl.one (KXY.out.2.1).fr.sl)) (fun w5 m5 hs5 hb5 => ?_) planT_end
      have E5 : Ext w0 w5 := Mod.trans' E4 m5 (fun q hq => .inr (by obtain ⟨z1a, z1b, -, z1e, z1y, z1p⟩ := HG1.out; have z1f := z1e.size; have z1g := z1y.size; have z1q := z1p.size; obtain ⟨z2a, z2b, -, z2e, z2y, z2p⟩ := HG2.out; have z2f := z2e.size; have z2g := z2y.size; have z2q := z2p.size; obtain ⟨z3a, z3b, -, z3e, z3y, z3p⟩ := HG3.out; have z3f := z3e.size; have z3g := z3y.size; have z3q := z3p.size; have sy1 := y1.size; have sy2 := y2.size; have sy3 := y3.size; subst hq; omega))
      have HG5 := Lib.hid (And.intro hs5 (And.intro hb5 m5))
      clear hs5 hb5
      refine ⟨fun _ => KF2.out _ E5, ?_⟩
      (try simp only [Act.put])
      refine planT_fork ?_
      refine planT_store rfl rfl rfl rfl ((Mod.blk m5 (Mod.blk m4 HG3.out.2.2.1 (by obtain ⟨z1a, z1b, -, z1e, z1y, z1p⟩ := HG1.out; have z1f := z1e.size; have z1g := z1y.size; have z1q := z1p.size; obtain ⟨z2a, z2b, -, z2e, z2y, z2p⟩ := HG2.out; have z2f := z2e.size; have z2g := z2y.size; have z2q := z2p.size; obtain ⟨z3a, z3b, -, z3e, z3y, z3p⟩ := HG3.out; have z3f := z3e.size; have z3g := z3y.size; have z3q := z3p.size; have sy1 := y1.size; have sy2 := y2.size; have sy3 := y3.size; omega)) (by obtain ⟨z1a, z1b, -, z1e, z1y, z1p⟩ := HG1.out; have z1f := z1e.size; have z1g := z1y.size; have z1q := z1p.size; obtain ⟨z2a, z2b, -, z2e, z2y, z2p⟩ := HG2.out; have z2f := z2e.size; have z2g := z2y.size; have z2q := z2p.size; obtain ⟨z3a, z3b, -, z3e, z3y, z3p⟩ := HG3.out; have z3f := z3e.size; have z3g := z3y.size; have z3q := z3p.size; have sy1 := y1.size; have sy2 := y2.size; have sy3 := y3.size; omega))) (by kernel_rfl) rfl (evArr_all (Sl.one (KXY.out.2.2).rd) (Sl.one (KXY.out.2.2).wr) (Sl.one (KXY.out.2.2).fr.sl)) (fun w6 m6 hs6 hb6 => ?_) planT_end
      have E6 : Ext w0 w6 := Mod.trans' E5 m6 (fun q hq => .inr (by obtain ⟨z1a, z1b, -, z1e, z1y, z1p⟩ := HG1.out; have z1f := z1e.size; have z1g := z1y.size; have z1q := z1p.size; obtain ⟨z2a, z2b, -, z2e, z2y, z2p⟩ := HG2.out; have z2f := z2e.size; have z2g := z2y.size; have z2q := z2p.size; obtain ⟨z3a, z3b, -, z3e, z3y, z3p⟩ := HG3.out; have z3f := z3e.size; have z3g := z3y.size; have z3q := z3p.size; have sy1 := y1.size; have sy2 := y2.size; have sy3 := y3.size; subst hq; omega))
      have HG6 := Lib.hid (And.intro hs6 (And.intro hb6 m6))
      clear hs6 hb6
      refine ⟨fun _ => KF2.out _ E6, ?_⟩
      (try simp only [Act.put])
      refine planT_nil ?_
      go_wp2_with fail
      go_meet
      exact ⟨g1, g2, g3, rfl, rfl, rfl, ⟨(Mod.blk m6 (Mod.blk m5 HG4.out.2.1 (by obtain ⟨z1a, z1b, -, z1e, z1y, z1p⟩ := HG1.out; have z1f := z1e.size; have z1g := z1y.size; have z1q := z1p.size; obtain ⟨z2a, z2b, -, z2e, z2y, z2p⟩ := HG2.out; have z2f := z2e.size; have z2g := z2y.size; have z2q := z2p.size; obtain ⟨z3a, z3b, -, z3e, z3y, z3p⟩ := HG3.out; have z3f := z3e.size; have z3g := z3y.size; have z3q := z3p.size; have sy1 := y1.size; have sy2 := y2.size; have sy3 := y3.size; omega)) (by obtain ⟨z1a, z1b, -, z1e, z1y, z1p⟩ := HG1.out; have z1f := z1e.size; have z1g := z1y.size; have z1q := z1p.size; obtain ⟨z2a, z2b, -, z2e, z2y, z2p⟩ := HG2.out; have z2f := z2e.size; have z2g := z2y.size; have z2q := z2p.size; obtain ⟨z3a, z3b, -, z3e, z3y, z3p⟩ := HG3.out; have z3f := z3e.size; have z3g := z3y.size; have z3q := z3p.size; have sy1 := y1.size; have sy2 := y2.size; have sy3 := y3.size; omega))⟩, ⟨(Mod.blk m6 HG5.out.2.1 (by obtain ⟨z1a, z1b, -, z1e, z1y, z1p⟩ := HG1.out; have z1f := z1e.size; have z1g := z1y.size; have z1q := z1p.size; obtain ⟨z2a, z2b, -, z2e, z2y, z2p⟩ := HG2.out; have z2f := z2e.size; have z2g := z2y.size; have z2q := z2p.size; obtain ⟨z3a, z3b, -, z3e, z3y, z3p⟩ := HG3.out; have z3f := z3e.size; have z3g := z3y.size; have z3q := z3p.size; have sy1 := y1.size; have sy2 := y2.size; have sy3 := y3.size; omega))⟩, ⟨HG6.out.2.1⟩, E6⟩
    refine planT_alloc rfl rfl (fun w => Tryz.zeroValue70 w) rfl (fun g7 w7 y7 hg7 hs7 hb7 => ?_) planT_end
    have E7 : Ext w0 w7 := Mod.trans E1 y7
    have HG7 := Lib.hid (And.intro hg7 (And.intro hs7 (And.intro hb7 (And.intro E7 (And.intro y7 E1)))))
    clear hg7 hs7 hb7
    refine ⟨fun _ => KF2.out _ E7, ?_⟩
    (try simp only [Act.put, List.setIfInBounds_toArray, List.set_cons_zero, List.set_cons_succ])
    refine planT_fork ?_
    refine planT_alloc rfl rfl (fun w => Tryz.zeroValue70 w) rfl (fun g8 w8 y8 hg8 hs8 hb8 => ?_) planT_end
    have E8 : Ext w0 w8 := Mod.trans E7 y8
    have HG8 := Lib.hid (And.intro hg8 (And.intro hs8 (And.intro hb8 (And.intro E8 (And.intro y8 E7)))))
    clear hg8 hs8 hb8
    refine ⟨fun _ => KF2.out _ E8, ?_⟩
    (try simp only [Act.put, List.setIfInBounds_toArray, List.set_cons_zero, List.set_cons_succ])
    refine planT_fork ?_
    refine planT_store rfl rfl rfl rfl ((Ext.blk y8 (Ext.blk y7 HG1.out.2.2.1))) (by kernel_rfl) rfl (evArr_all (Sl.one (KXY.out.1).rd) (Sl.one (KXY.out.1).wr) (Sl.one (KXY.out.1).fr.sl)) (fun w9 m9 hs9 hb9 => ?_) planT_end
    have E9 : Ext w0 w9 := Mod.trans' E8 m9 (fun q hq => .inr (by obtain ⟨z1a, z1b, -, z1e, z1y, z1p⟩ := HG1.out; have z1f := z1e.size; have z1g := z1y.size; have z1q := z1p.size; obtain ⟨z7a, z7b, -, z7e, z7y, z7p⟩ := HG7.out; have z7f := z7e.size; have z7g := z7y.size; have z7q := z7p.size; obtain ⟨z8a, z8b, -, z8e, z8y, z8p⟩ := HG8.out; have z8f := z8e.size; have z8g := z8y.size; have z8q := z8p.size; have sy1 := y1.size; have sy7 := y7.size; have sy8 := y8.size; subst hq; omega))
    have HG9 := Lib.hid (And.intro hs9 (And.intro hb9 m9))
    clear hs9 hb9
    refine ⟨fun _ => KF2.out _ E9, ?_⟩
    (try simp only [Act.put])
    refine planT_fork ?_
    refine planT_store rfl rfl rfl rfl ((Mod.blk m9 HG8.out.2.2.1 (by obtain ⟨z1a, z1b, -, z1e, z1y, z1p⟩ := HG1.out; have z1f := z1e.size; have z1g := z1y.size; have z1q := z1p.size; obtain ⟨z7a, z7b, -, z7e, z7y, z7p⟩ := HG7.out; have z7f := z7e.size; have z7g := z7y.size; have z7q := z7p.size; obtain ⟨z8a, z8b, -, z8e, z8y, z8p⟩ := HG8.out; have z8f := z8e.size; have z8g := z8y.size; have z8q := z8p.size; have sy1 := y1.size; have sy7 := y7.size; have sy8 := y8.size; omega))) (by kernel_rfl) rfl (evArr_all (Sl.one (KXY.out.2.1).rd) (Sl.one (KXY.out.2.1).wr) (Sl.one (KXY.out.2.1).fr.sl)) (fun w10 m10 hs10 hb10 => ?_) planT_end
    have E10 : Ext w0 w10 := Mod.trans' E9 m10 (fun q hq => .inr (by obtain ⟨z1a, z1b, -, z1e, z1y, z1p⟩ := HG1.out; have z1f := z1e.size; have z1g := z1y.size; have z1q := z1p.size; obtain ⟨z7a, z7b, -, z7e, z7y, z7p⟩ := HG7.out; have z7f := z7e.size; have z7g := z7y.size; have z7q := z7p.size; obtain ⟨z8a, z8b, -, z8e, z8y, z8p⟩ := HG8.out; have z8f := z8e.size; have z8g := z8y.size; have z8q := z8p.size; have sy1 := y1.size; have sy7 := y7.size; have sy8 := y8.size; subst hq; omega))
    have HG10 := Lib.hid (And.intro hs10 (And.intro hb10 m10))
    clear hs10 hb10
    refine ⟨fun _ => KF2.out _ E10, ?_⟩
    (try simp only [Act.put])
    refine planT_fork ?_
    refine planT_store rfl rfl rfl rfl ((Mod.blk m10 (Mod.blk m9 (Ext.blk y8 HG7.out.2.2.1) (by obtain ⟨z1a, z1b, -, z1e, z1y, z1p⟩ := HG1.out; have z1f := z1e.size; have z1g := z1y.size; have z1q := z1p.size; obtain ⟨z7a, z7b, -, z7e, z7y, z7p⟩ := HG7.out; have z7f := z7e.size; have z7g := z7y.size; have z7q := z7p.size; obtain ⟨z8a, z8b, -, z8e, z8y, z8p⟩ := HG8.out; have z8f := z8e.size; have z8g := z8y.size; have z8q := z8p.size; have sy1 := y1.size; have sy7 := y7.size; have sy8 := y8.size; omega)) (by obtain ⟨z1a, z1b, -, z1e, z1y, z1p⟩ := HG1.out; have z1f := z1e.size; have z1g := z1y.size; have z1q := z1p.size; obtain ⟨z7a, z7b, -, z7e, z7y, z7p⟩ := HG7.out; have z7f := z7e.size; have z7g := z7y.size; have z7q := z7p.size; obtain ⟨z8a, z8b, -, z8e, z8y, z8p⟩ := HG8.out; have z8f := z8e.size; have z8g := z8y.size; have z8q := z8p.size; have sy1 := y1.size; have sy7 := y7.size; have sy8 := y8.size; omega))) (by kernel_rfl) rfl (evArr_all (Sl.one (KXY.out.2.2).rd) (Sl.one (KXY.out.2.2).wr) (Sl.one (KXY.out.2.2).fr.sl)) (fun w11 m11 hs11 hb11 => ?_) planT_end
    have E11 : Ext w0 w11 := Mod.trans' E10 m11 (fun q hq => .inr (by obtain ⟨z1a, z1b, -, z1e, z1y, z1p⟩ := HG1.out; have z1f := z1e.size; have z1g := z1y.size; have z1q := z1p.size; obtain ⟨z7a, z7b, -, z7e, z7y, z7p⟩ := HG7.out; have z7f := z7e.size; have z7g := z7y.size; have z7q := z7p.size; obtain ⟨z8a, z8b, -, z8e, z8y, z8p⟩ := HG8.out; have z8f := z8e.size; have z8g := z8y.size; have z8q := z8p.size; have sy1 := y1.size; have sy7 := y7.size; have sy8 := y8.size; subst hq; omega))
    have HG11 := Lib.hid (And.intro hs11 (And.intro hb11 m11))
    clear hs11 hb11
    refine ⟨fun _ => KF2.out _ E11, ?_⟩
    (try simp only [Act.put])
    refine planT_nil ?_
    go_wp2_with fail
    go_meet
    exact ⟨g1, g8, g7, rfl, rfl, rfl, ⟨(Mod.blk m11 (Mod.blk m10 HG9.out.2.1 (by obtain ⟨z1a, z1b, -, z1e, z1y, z1p⟩ := HG1.out; have z1f := z1e.size; have z1g := z1y.size; have z1q := z1p.size; obtain ⟨z7a, z7b, -, z7e, z7y, z7p⟩ := HG7.out; have z7f := z7e.size; have z7g := z7y.size; have z7q := z7p.size; obtain ⟨z8a, z8b, -, z8e, z8y, z8p⟩ := HG8.out; have z8f := z8e.size; have z8g := z8y.size; have z8q := z8p.size; have sy1 := y1.size; have sy7 := y7.size; have sy8 := y8.size; omega)) (by obtain ⟨z1a, z1b, -, z1e, z1y, z1p⟩ := HG1.out; have z1f := z1e.size; have z1g := z1y.size; have z1q := z1p.size; obtain ⟨z7a, z7b, -, z7e, z7y, z7p⟩ := HG7.out; have z7f := z7e.size; have z7g := z7y.size; have z7q := z7p.size; obtain ⟨z8a, z8b, -, z8e, z8y, z8p⟩ := HG8.out; have z8f := z8e.size; have z8g := z8y.size; have z8q := z8p.size; have sy1 := y1.size; have sy7 := y7.size; have sy8 := y8.size; omega))⟩, ⟨(Mod.blk m11 HG10.out.2.1 (by obtain ⟨z1a, z1b, -, z1e, z1y, z1p⟩ := HG1.out; have z1f := z1e.size; have z1g := z1y.size; have z1q := z1p.size; obtain ⟨z7a, z7b, -, z7e, z7y, z7p⟩ := HG7.out; have z7f := z7e.size; have z7g := z7y.size; have z7q := z7p.size; obtain ⟨z8a, z8b, -, z8e, z8y, z8p⟩ := HG8.out; have z8f := z8e.size; have z8g := z8y.size; have z8q := z8p.size; have sy1 := y1.size; have sy7 := y7.size; have sy8 := y8.size; omega))⟩, ⟨HG11.out.2.1⟩, E11⟩
  refine planT_alloc rfl rfl (fun w => Tryz.zeroValue70 w) rfl (fun g12 w12 y12 hg12 hs12 hb12 => ?_) ?_
  · have E12 : Ext w0 w12 := Mod.trans ED y12
    have HG12 := Lib.hid (And.intro hg12 (And.intro hs12 (And.intro hb12 (And.intro E12 (And.intro y12 ED)))))
    clear hg12 hs12 hb12
    refine ⟨fun _ => KF2.out _ E12, ?_⟩
    (try simp only [Act.put, List.setIfInBounds_toArray, List.set_cons_zero, List.set_cons_succ])
    refine planT_fork ?_
    refine planT_alloc rfl rfl (fun w => Tryz.zeroValue70 w) rfl (fun g13 w13 y13 hg13 hs13 hb13 => ?_) ?_
    · have E13 : Ext w0 w13 := Mod.trans E12 y13
      have HG13 := Lib.hid (And.intro hg13 (And.intro hs13 (And.intro hb13 (And.intro E13 (And.intro y13 E12)))))
      clear hg13 hs13 hb13
      refine ⟨fun _ => KF2.out _ E13, ?_⟩
      (try simp only [Act.put, List.setIfInBounds_toArray, List.set_cons_zero, List.set_cons_succ])
      refine planT_fork ?_
      refine planT_alloc rfl rfl (fun w => Tryz.zeroValue70 w) rfl (fun g14 w14 y14 hg14 hs14 hb14 => ?_) planT_end
      have E14 : Ext w0 w14 := Mod.trans E13 y14
      have HG14 := Lib.hid (And.intro hg14 (And.intro hs14 (And.intro hb14 (And.intro E14 (And.intro y14 E13)))))
      clear hg14 hs14 hb14
      refine ⟨fun _ => KF2.out _ E14, ?_⟩
      (try simp only [Act.put, List.setIfInBounds_toArray, List.set_cons_zero, List.set_cons_succ])
      refine planT_fork ?_
      refine planT_store rfl rfl rfl rfl ((Ext.blk y14 HG13.out.2.2.1)) (by kernel_rfl) rfl (evArr_all (Sl.one (KXY.out.1).rd) (Sl.one (KXY.out.1).wr) (Sl.one (KXY.out.1).fr.sl)) (fun w15 m15 hs15 hb15 => ?_) planT_end
      have E15 : Ext w0 w15 := Mod.trans' E14 m15 (fun q hq => .inr (by obtain ⟨z12a, z12b, -, z12e, z12y, z12p⟩ := HG12.out; have z12f := z12e.size; have z12g := z12y.size; have z12q := z12p.size; obtain ⟨z13a, z13b, -, z13e, z13y, z13p⟩ := HG13.out; have z13f := z13e.size; have z13g := z13y.size; have z13q := z13p.size; obtain ⟨z14a, z14b, -, z14e, z14y, z14p⟩ := HG14.out; have z14f := z14e.size; have z14g := z14y.size; have z14q := z14p.size; have sy12 := y12.size; have sy13 := y13.size; have sy14 := y14.size; subst hq; omega))
      have HG15 := Lib.hid (And.intro hs15 (And.intro hb15 m15))
      clear hs15 hb15
      refine ⟨fun _ => KF2.out _ E15, ?_⟩
      (try simp only [Act.put])
      refine planT_fork ?_
      refine planT_store rfl rfl rfl rfl ((Mod.blk m15 (Ext.blk y14 (Ext.blk y13 HG12.out.2.2.1)) (by obtain ⟨z12a, z12b, -, z12e, z12y, z12p⟩ := HG12.out; have z12f := z12e.size; have z12g := z12y.size; have z12q := z12p.size; obtain ⟨z13a, z13b, -, z13e, z13y, z13p⟩ := HG13.out; have z13f := z13e.size; have z13g := z13y.size; have z13q := z13p.size; obtain ⟨z14a, z14b, -, z14e, z14y, z14p⟩ := HG14.out; have z14f := z14e.size; have z14g := z14y.size; have z14q := z14p.size; have sy12 := y12.size; have sy13 := y13.size; have sy14 := y14.size; omega))) (by kernel_rfl) rfl (evArr_all (Sl.one (KXY.out.2.1).rd) (Sl.one (KXY.out.2.1).wr) (Sl.one (KXY.out.2.1).fr.sl)) (fun w16 m16 hs16 hb16 => ?_) planT_end
      have E16 : Ext w0 w16 := Mod.trans' E15 m16 (fun q hq => .inr (by obtain ⟨z12a, z12b, -, z12e, z12y, z12p⟩ := HG12.out; have z12f := z12e.size; have z12g := z12y.size; have z12q := z12p.size; obtain ⟨z13a, z13b, -, z13e, z13y, z13p⟩ := HG13.out; have z13f := z13e.size; have z13g := z13y.size; have z13q := z13p.size; obtain ⟨z14a, z14b, -, z14e, z14y, z14p⟩ := HG14.out; have z14f := z14e.size; have z14g := z14y.size; have z14q := z14p.size; have sy12 := y12.size; have sy13 := y13.size; have sy14 := y14.size; subst hq; omega))
      have HG16 := Lib.hid (And.intro hs16 (And.intro hb16 m16))
      clear hs16 hb16
      refine ⟨fun _ => KF2.out _ E16, ?_⟩
      (try simp only [Act.put])
      refine planT_fork ?_
      refine planT_store rfl rfl rfl rfl ((Mod.blk m16 (Mod.blk m15 HG14.out.2.2.1 (by obtain ⟨z12a, z12b, -, z12e, z12y, z12p⟩ := HG12.out; have z12f := z12e.size; have z12g := z12y.size; have z12q := z12p.size; obtain ⟨z13a, z13b, -, z13e, z13y, z13p⟩ := HG13.out; have z13f := z13e.size; have z13g := z13y.size; have z13q := z13p.size; obtain ⟨z14a, z14b, -, z14e, z14y, z14p⟩ := HG14.out; have z14f := z14e.size; have z14g := z14y.size; have z14q := z14p.size; have sy12 := y12.size; have sy13 := y13.size; have sy14 := y14.size; omega)) (by obtain ⟨z12a, z12b, -, z12e, z12y, z12p⟩ := HG12.out; have z12f := z12e.size; have z12g := z12y.size; have z12q := z12p.size; obtain ⟨z13a, z13b, -, z13e, z13y, z13p⟩ := HG13.out; have z13f := z13e.size; have z13g := z13y.size; have z13q := z13p.size; obtain ⟨z14a, z14b, -, z14e, z14y, z14p⟩ := HG14.out; have z14f := z14e.size; have z14g := z14y.size; have z14q := z14p.size; have sy12 := y12.size; have sy13 := y13.size; have sy14 := y14.size; omega))) (by kernel_rfl) rfl (evArr_all (Sl.one (KXY.out.2.2).rd) (Sl.one (KXY.out.2.2).wr) (Sl.one (KXY.out.2.2).fr.sl)) (fun w17 m17 hs17 hb17 => ?_) planT_end
      have E17 : Ext w0 w17 := Mod.trans' E16 m17 (fun q hq => .inr (by obtain ⟨z12a, z12b, -, z12e, z12y, z12p⟩ := HG12.out; have z12f := z12e.size; have z12g := z12y.size; have z12q := z12p.size; obtain ⟨z13a, z13b, -, z13e, z13y, z13p⟩ := HG13.out; have z13f := z13e.size; have z13g := z13y.size; have z13q := z13p.size; obtain ⟨z14a, z14b, -, z14e, z14y, z14p⟩ := HG14.out; have z14f := z14e.size; have z14g := z14y.size; have z14q := z14p.size; have sy12 := y12.size; have sy13 := y13.size; have sy14 := y14.size; subst hq; omega))
      have HG17 := Lib.hid (And.intro hs17 (And.intro hb17 m17))
      clear hs17 hb17
      refine ⟨fun _ => KF2.out _ E17, ?_⟩
      (try simp only [Act.put])
      refine planT_nil ?_
      go_wp2_with fail
      go_meet
      exact ⟨g13, g12, g14, rfl, rfl, rfl, ⟨(Mod.blk m17 (Mod.blk m16 HG15.out.2.1 (by obtain ⟨z12a, z12b, -, z12e, z12y, z12p⟩ := HG12.out; have z12f := z12e.size; have z12g := z12y.size; have z12q := z12p.size; obtain ⟨z13a, z13b, -, z13e, z13y, z13p⟩ := HG13.out; have z13f := z13e.size; have z13g := z13y.size; have z13q := z13p.size; obtain ⟨z14a, z14b, -, z14e, z14y, z14p⟩ := HG14.out; have z14f := z14e.size; have z14g := z14y.size; have z14q := z14p.size; have sy12 := y12.size; have sy13 := y13.size; have sy14 := y14.size; omega)) (by obtain ⟨z12a, z12b, -, z12e, z12y, z12p⟩ := HG12.out; have z12f := z12e.size; have z12g := z12y.size; have z12q := z12p.size; obtain ⟨z13a, z13b, -, z13e, z13y, z13p⟩ := HG13.out; have z13f := z13e.size; have z13g := z13y.size; have z13q := z13p.size; obtain ⟨z14a, z14b, -, z14e, z14y, z14p⟩ := HG14.out; have z14f := z14e.size; have z14g := z14y.size; have z14q := z14p.size; have sy12 := y12.size; have sy13 := y13.size; have sy14 := y14.size; omega))⟩, ⟨(Mod.blk m17 HG16.out.2.1 (by obtain ⟨z12a, z12b, -, z12e, z12y, z12p⟩ := HG12.out; have z12f := z12e.size; have z12g := z12y.size; have z12q := z12p.size; obtain ⟨z13a, z13b, -, z13e, z13y, z13p⟩ := HG13.out; have z13f := z13e.size; have z13g := z13y.size; have z13q := z13p.size; obtain ⟨z14a, z14b, -, z14e, z14y, z14p⟩ := HG14.out; have z14f := z14e.size; have z14g := z14y.size; have z14q := z14p.size; have sy12 := y12.size; have sy13 := y13.size; have sy14 := y14.size; omega))⟩, ⟨HG17.out.2.1⟩, E17⟩
    refine planT_alloc rfl rfl (fun w => Tryz.zeroValue70 w) rfl (fun g18 w18 y18 hg18 hs18 hb18 => ?_) planT_end
    have E18 : Ext w0 w18 := Mod.trans E12 y18
    have HG18 := Lib.hid (And.intro hg18 (And.intro hs18 (And.intro hb18 (And.intro E18 (And.intro y18 E12)))))
    clear hg18 hs18 hb18
    refine ⟨fun _ => KF2.out _ E18, ?_⟩
    (try simp only [Act.put, List.setIfInBounds_toArray, List.set_cons_zero, List.set_cons_succ])
    refine planT_fork ?_
    refine planT_alloc rfl rfl (fun w => Tryz.zeroValue70 w) rfl (fun g19 w19 y19 hg19 hs19 hb19 => ?_) planT_end
    have E19 : Ext w0 w19 := Mod.trans E18 y19
    have HG19 := Lib.hid (And.intro hg19 (And.intro hs19 (And.intro hb19 (And.intro E19 (And.intro y19 E18)))))
    clear hg19 hs19 hb19
    refine ⟨fun _ => KF2.out _ E19, ?_⟩
    (try simp only [Act.put, List.setIfInBounds_toArray, List.set_cons_zero, List.set_cons_succ])
    refine planT_fork ?_
    refine planT_store rfl rfl rfl rfl (HG19.out.2.2.1) (by kernel_rfl) rfl (evArr_all (Sl.one (KXY.out.1).rd) (Sl.one (KXY.out.1).wr) (Sl.one (KXY.out.1).fr.sl)) (fun w20 m20 hs20 hb20 => ?_) planT_end
    have E20 : Ext w0 w20 := Mod.trans' E19 m20 (fun q hq => .inr (by obtain ⟨z12a, z12b, -, z12e, z12y, z12p⟩ := HG12.out; have z12f := z12e.size; have z12g := z12y.size; have z12q := z12p.size; obtain ⟨z18a, z18b, -, z18e, z18y, z18p⟩ := HG18.out; have z18f := z18e.size; have z18g := z18y.size; have z18q := z18p.size; obtain ⟨z19a, z19b, -, z19e, z19y, z19p⟩ := HG19.out; have z19f := z19e.size; have z19g := z19y.size; have z19q := z19p.size; have sy12 := y12.size; have sy18 := y18.size; have sy19 := y19.size; subst hq; omega))
    have HG20 := Lib.hid (And.intro hs20 (And.intro hb20 m20))
    clear hs20 hb20
    refine ⟨fun _ => KF2.out _ E20, ?_⟩
    (try simp only [Act.put])
    refine planT_fork ?_
    refine planT_store rfl rfl rfl rfl ((Mod.blk m20 (Ext.blk y19 (Ext.blk y18 HG12.out.2.2.1)) (by obtain ⟨z12a, z12b, -, z12e, z12y, z12p⟩ := HG12.out; have z12f := z12e.size; have z12g := z12y.size; have z12q := z12p.size; obtain ⟨z18a, z18b, -, z18e, z18y, z18p⟩ := HG18.out; have z18f := z18e.size; have z18g := z18y.size; have z18q := z18p.size; obtain ⟨z19a, z19b, -, z19e, z19y, z19p⟩ := HG19.out; have z19f := z19e.size; have z19g := z19y.size; have z19q := z19p.size; have sy12 := y12.size; have sy18 := y18.size; have sy19 := y19.size; omega))) (by kernel_rfl) rfl (evArr_all (Sl.one (KXY.out.2.1).rd) (Sl.one (KXY.out.2.1).wr) (Sl.one (KXY.out.2.1).fr.sl)) (fun w21 m21 hs21 hb21 => ?_) planT_end
    have E21 : Ext w0 w21 := Mod.trans' E20 m21 (fun q hq => .inr (by obtain ⟨z12a, z12b, -, z12e, z12y, z12p⟩ := HG12.out; have z12f := z12e.size; have z12g := z12y.size; have z12q := z12p.size; obtain ⟨z18a, z18b, -, z18e, z18y, z18p⟩ := HG18.out; have z18f := z18e.size; have z18g := z18y.size; have z18q := z18p.size; obtain ⟨z19a, z19b, -, z19e, z19y, z19p⟩ := HG19.out; have z19f := z19e.size; have z19g := z19y.size; have z19q := z19p.size; have sy12 := y12.size; have sy18 := y18.size; have sy19 := y19.size; subst hq; omega))
    have HG21 := Lib.hid (And.intro hs21 (And.intro hb21 m21))
    clear hs21 hb21
    refine ⟨fun _ => KF2.out _ E21, ?_⟩
    (try simp only [Act.put])
    refine planT_fork ?_
    refine planT_store rfl rfl rfl rfl ((Mod.blk m21 (Mod.blk m20 (Ext.blk y19 HG18.out.2.2.1) (by obtain ⟨z12a, z12b, -, z12e, z12y, z12p⟩ := HG12.out; have z12f := z12e.size; have z12g := z12y.size; have z12q := z12p.size; obtain ⟨z18a, z18b, -, z18e, z18y, z18p⟩ := HG18.out; have z18f := z18e.size; have z18g := z18y.size; have z18q := z18p.size; obtain ⟨z19a, z19b, -, z19e, z19y, z19p⟩ := HG19.out; have z19f := z19e.size; have z19g := z19y.size; have z19q := z19p.size; have sy12 := y12.size; have sy18 := y18.size; have sy19 := y19.size; omega)) (by obtain ⟨z12a, z12b, -, z12e, z12y, z12p⟩ := HG12.out; have z12f := z12e.size; have z12g := z12y.size; have z12q := z12p.size; obtain ⟨z18a, z18b, -, z18e, z18y, z18p⟩ := HG18.out; have z18f := z18e.size; have z18g := z18y.size; have z18q := z18p.size; obtain ⟨z19a, z19b, -, z19e, z19y, z19p⟩ := HG19.out; have z19f := z19e.size; have z19g := z19y.size; have z19q := z19p.size; have sy12 := y12.size; have sy18 := y18.size; have sy19 := y19.size; omega))) (by kernel_rfl) rfl (evArr_all (Sl.one (KXY.out.2.2).rd) (Sl.one (KXY.out.2.2).wr) (Sl.one (KXY.out.2.2).fr.sl)) (fun w22 m22 hs22 hb22 => ?_) planT_end
    have E22 : Ext w0 w22 := Mod.trans' E21 m22 (fun q hq => .inr (by obtain ⟨z12a, z12b, -, z12e, z12y, z12p⟩ := HG12.out; have z12f := z12e.size; have z12g := z12y.size; have z12q := z12p.size; obtain ⟨z18a, z18b, -, z18e, z18y, z18p⟩ := HG18.out; have z18f := z18e.size; have z18g := z18y.size; have z18q := z18p.size; obtain ⟨z19a, z19b, -, z19e, z19y, z19p⟩ := HG19.out; have z19f := z19e.size; have z19g := z19y.size; have z19q := z19p.size; have sy12 := y12.size; have sy18 := y18.size; have sy19 := y19.size; subst hq; omega))
    have HG22 := Lib.hid (And.intro hs22 (And.intro hb22 m22))
    clear hs22 hb22
    refine ⟨fun _ => KF2.out _ E22, ?_⟩
    (try simp only [Act.put])
    refine planT_nil ?_
    go_wp2_with fail
    go_meet
    exact ⟨g19, g12, g18, rfl, rfl, rfl, ⟨(Mod.blk m22 (Mod.blk m21 HG20.out.2.1 (by obtain ⟨z12a, z12b, -, z12e, z12y, z12p⟩ := HG12.out; have z12f := z12e.size; have z12g := z12y.size; have z12q := z12p.size; obtain ⟨z18a, z18b, -, z18e, z18y, z18p⟩ := HG18.out; have z18f := z18e.size; have z18g := z18y.size; have z18q := z18p.size; obtain ⟨z19a, z19b, -, z19e, z19y, z19p⟩ := HG19.out; have z19f := z19e.size; have z19g := z19y.size; have z19q := z19p.size; have sy12 := y12.size; have sy18 := y18.size; have sy19 := y19.size; omega)) (by obtain ⟨z12a, z12b, -, z12e, z12y, z12p⟩ := HG12.out; have z12f := z12e.size; have z12g := z12y.size; have z12q := z12p.size; obtain ⟨z18a, z18b, -, z18e, z18y, z18p⟩ := HG18.out; have z18f := z18e.size; have z18g := z18y.size; have z18q := z18p.size; obtain ⟨z19a, z19b, -, z19e, z19y, z19p⟩ := HG19.out; have z19f := z19e.size; have z19g := z19y.size; have z19q := z19p.size; have sy12 := y12.size; have sy18 := y18.size; have sy19 := y19.size; omega))⟩, ⟨(Mod.blk m22 HG21.out.2.1 (by obtain ⟨z12a, z12b, -, z12e, z12y, z12p⟩ := HG12.out; have z12f := z12e.size; have z12g := z12y.size; have z12q := z12p.size; obtain ⟨z18a, z18b, -, z18e, z18y, z18p⟩ := HG18.out; have z18f := z18e.size; have z18g := z18y.size; have z18q := z18p.size; obtain ⟨z19a, z19b, -, z19e, z19y, z19p⟩ := HG19.out; have z19f := z19e.size; have z19g := z19y.size; have z19q := z19p.size; have sy12 := y12.size; have sy18 := y18.size; have sy19 := y19.size; omega))⟩, ⟨HG22.out.2.1⟩, E22⟩
  refine planT_alloc rfl rfl (fun w => Tryz.zeroValue70 w) rfl (fun g23 w23 y23 hg23 hs23 hb23 => ?_) planT_end
  have E23 : Ext w0 w23 := Mod.trans ED y23
  have HG23 := Lib.hid (And.intro hg23 (And.intro hs23 (And.intro hb23 (And.intro E23 (And.intro y23 ED)))))
  clear hg23 hs23 hb23
  refine ⟨fun _ => KF2.out _ E23, ?_⟩
  (try simp only [Act.put, List.setIfInBounds_toArray, List.set_cons_zero, List.set_cons_succ])
  refine planT_fork ?_
  refine planT_alloc rfl rfl (fun w => Tryz.zeroValue70 w) rfl (fun g24 w24 y24 hg24 hs24 hb24 => ?_) ?_
  · have E24 : Ext w0 w24 := Mod.trans E23 y24
    have HG24 := Lib.hid (And.intro hg24 (And.intro hs24 (And.intro hb24 (And.intro E24 (And.intro y24 E23)))))
    clear hg24 hs24 hb24
    refine ⟨fun _ => KF2.out _ E24, ?_⟩
    (try simp only [Act.put, List.setIfInBounds_toArray, List.set_cons_zero, List.set_cons_succ])
    refine planT_fork ?_
    refine planT_alloc rfl rfl (fun w => Tryz.zeroValue70 w) rfl (fun g25 w25 y25 hg25 hs25 hb25 => ?_) planT_end
    have E25 : Ext w0 w25 := Mod.trans E24 y25
    have HG25 := Lib.hid (And.intro hg25 (And.intro hs25 (And.intro hb25 (And.intro E25 (And.intro y25 E24)))))
    clear hg25 hs25 hb25
    refine ⟨fun _ => KF2.out _ E25, ?_⟩
    (try simp only [Act.put, List.setIfInBounds_toArray, List.set_cons_zero, List.set_cons_succ])
    refine planT_fork ?_
    refine planT_store rfl rfl rfl rfl ((Ext.blk y25 HG24.out.2.2.1)) (by kernel_rfl) rfl (evArr_all (Sl.one (KXY.out.1).rd) (Sl.one (KXY.out.1).wr) (Sl.one (KXY.out.1).fr.sl)) (fun w26 m26 hs26 hb26 => ?_) planT_end
    have E26 : Ext w0 w26 := Mod.trans' E25 m26 (fun q hq => .inr (by obtain ⟨z23a, z23b, -, z23e, z23y, z23p⟩ := HG23.out; have z23f := z23e.size; have z23g := z23y.size; have z23q := z23p.size; obtain ⟨z24a, z24b, -, z24e, z24y, z24p⟩ := HG24.out; have z24f := z24e.size; have z24g := z24y.size; have z24q := z24p.size; obtain ⟨z25a, z25b, -, z25e, z25y, z25p⟩ := HG25.out; have z25f := z25e.size; have z25g := z25y.size; have z25q := z25p.size; have sy23 := y23.size; have sy24 := y24.size; have sy25 := y25.size; subst hq; omega))
    have HG26 := Lib.hid (And.intro hs26 (And.intro hb26 m26))
    clear hs26 hb26
    refine ⟨fun _ => KF2.out _ E26, ?_⟩
    (try simp only [Act.put])
    refine planT_fork ?_
    refine planT_store rfl rfl rfl rfl ((Mod.blk m26 HG25.out.2.2.1 (by obtain ⟨z23a, z23b, -, z23e, z23y, z23p⟩ := HG23.out; have z23f := z23e.size; have z23g := z23y.size; have z23q := z23p.size; obtain ⟨z24a, z24b, -, z24e, z24y, z24p⟩ := HG24.out; have z24f := z24e.size; have z24g := z24y.size; have z24q := z24p.size; obtain ⟨z25a, z25b, -, z25e, z25y, z25p⟩ := HG25.out; have z25f := z25e.size; have z25g := z25y.size; have z25q := z25p.size; have sy23 := y23.size; have sy24 := y24.size; have sy25 := y25.size; omega))) (by kernel_rfl) rfl (evArr_all (Sl.one (KXY.out.2.1).rd) (Sl.one (KXY.out.2.1).wr) (Sl.one (KXY.out.2.1).fr.sl)) (fun w27 m27 hs27 hb27 => ?_) planT_end
    have E27 : Ext w0 w27 := Mod.trans' E26 m27 (fun q hq => .inr (by obtain ⟨z23a, z23b, -, z23e, z23y, z23p⟩ := HG23.out; have z23f := z23e.size; have z23g := z23y.size; have z23q := z23p.size; obtain ⟨z24a, z24b, -, z24e, z24y, z24p⟩ := HG24.out; have z24f := z24e.size; have z24g := z24y.size; have z24q := z24p.size; obtain ⟨z25a, z25b, -, z25e, z25y, z25p⟩ := HG25.out; have z25f := z25e.size; have z25g := z25y.size; have z25q := z25p.size; have sy23 := y23.size; have sy24 := y24.size; have sy25 := y25.size; subst hq; omega))
    have HG27 := Lib.hid (And.intro hs27 (And.intro hb27 m27))
    clear hs27 hb27
    refine ⟨fun _ => KF2.out _ E27, ?_⟩
    (try simp only [Act.put])
    refine planT_fork ?_
    refine planT_store rfl rfl rfl rfl ((Mod.blk m27 (Mod.blk m26 (Ext.blk y25 (Ext.blk y24 HG23.out.2.2.1)) (by obtain ⟨z23a, z23b, -, z23e, z23y, z23p⟩ := HG23.out; have z23f := z23e.size; have z23g := z23y.size; have z23q := z23p.size; obtain ⟨z24a, z24b, -, z24e, z24y, z24p⟩ := HG24.out; have z24f := z24e.size; have z24g := z24y.size; have z24q := z24p.size; obtain ⟨z25a, z25b, -, z25e, z25y, z25p⟩ := HG25.out; have z25f := z25e.size; have z25g := z25y.size; have z25q := z25p.size; have sy23 := y23.size; have sy24 := y24.size; have sy25 := y25.size; omega)) (by obtain ⟨z23a, z23b, -, z23e, z23y, z23p⟩ := HG23.out; have z23f := z23e.size; have z23g := z23y.size; have z23q := z23p.size; obtain ⟨z24a, z24b, -, z24e, z24y, z24p⟩ := HG24.out; have z24f := z24e.size; have z24g := z24y.size; have z24q := z24p.size; obtain ⟨z25a, z25b, -, z25e, z25y, z25p⟩ := HG25.out; have z25f := z25e.size; have z25g := z25y.size; have z25q := z25p.size; have sy23 := y23.size; have sy24 := y24.size; have sy25 := y25.size; omega))) (by kernel_rfl) rfl (evArr_all (Sl.one (KXY.out.2.2).rd) (Sl.one (KXY.out.2.2).wr) (Sl.one (KXY.out.2.2).fr.sl)) (fun w28 m28 hs28 hb28 => ?_) planT_end
    have E28 : Ext w0 w28 := Mod.trans' E27 m28 (fun q hq => .inr (by obtain ⟨z23a, z23b, -, z23e, z23y, z23p⟩ := HG23.out; have z23f := z23e.size; have z23g := z23y.size; have z23q := z23p.size; obtain ⟨z24a, z24b, -, z24e, z24y, z24p⟩ := HG24.out; have z24f := z24e.size; have z24g := z24y.size; have z24q := z24p.size; obtain ⟨z25a, z25b, -, z25e, z25y, z25p⟩ := HG25.out; have z25f := z25e.size; have z25g := z25y.size; have z25q := z25p.size; have sy23 := y23.size; have sy24 := y24.size; have sy25 := y25.size; subst hq; omega))
    have HG28 := Lib.hid (And.intro hs28 (And.intro hb28 m28))
    clear hs28 hb28
    refine ⟨fun _ => KF2.out _ E28, ?_⟩
    (try simp only [Act.put])
    refine planT_nil ?_
    go_wp2_with fail
    go_meet
    exact ⟨g24, g25, g23, rfl, rfl, rfl, ⟨(Mod.blk m28 (Mod.blk m27 HG26.out.2.1 (by obtain ⟨z23a, z23b, -, z23e, z23y, z23p⟩ := HG23.out; have z23f := z23e.size; have z23g := z23y.size; have z23q := z23p.size; obtain ⟨z24a, z24b, -, z24e, z24y, z24p⟩ := HG24.out; have z24f := z24e.size; have z24g := z24y.size; have z24q := z24p.size; obtain ⟨z25a, z25b, -, z25e, z25y, z25p⟩ := HG25.out; have z25f := z25e.size; have z25g := z25y.size; have z25q := z25p.size; have sy23 := y23.size; have sy24 := y24.size; have sy25 := y25.size; omega)) (by obtain ⟨z23a, z23b, -, z23e, z23y, z23p⟩ := HG23.out; have z23f := z23e.size; have z23g := z23y.size; have z23q := z23p.size; obtain ⟨z24a, z24b, -, z24e, z24y, z24p⟩ := HG24.out; have z24f := z24e.size; have z24g := z24y.size; have z24q := z24p.size; obtain ⟨z25a, z25b, -, z25e, z25y, z25p⟩ := HG25.out; have z25f := z25e.size; have z25g := z25y.size; have z25q := z25p.size; have sy23 := y23.size; have sy24 := y24.size; have sy25 := y25.size; omega))⟩, ⟨(Mod.blk m28 HG27.out.2.1 (by obtain ⟨z23a, z23b, -, z23e, z23y, z23p⟩ := HG23.out; have z23f := z23e.size; have z23g := z23y.size; have z23q := z23p.size; obtain ⟨z24a, z24b, -, z24e, z24y, z24p⟩ := HG24.out; have z24f := z24e.size; have z24g := z24y.size; have z24q := z24p.size; obtain ⟨z25a, z25b, -, z25e, z25y, z25p⟩ := HG25.out; have z25f := z25e.size; have z25g := z25y.size; have z25q := z25p.size; have sy23 := y23.size; have sy24 := y24.size; have sy25 := y25.size; omega))⟩, ⟨HG28.out.2.1⟩, E28⟩
  refine planT_alloc rfl rfl (fun w => Tryz.zeroValue70 w) rfl (fun g29 w29 y29 hg29 hs29 hb29 => ?_) planT_end
  have E29 : Ext w0 w29 := Mod.trans E23 y29
  have HG29 := Lib.hid (And.intro hg29 (And.intro hs29 (And.intro hb29 (And.intro E29 (And.intro y29 E23)))))
  clear hg29 hs29 hb29
  refine ⟨fun _ => KF2.out _ E29, ?_⟩
  (try simp only [Act.put, List.setIfInBounds_toArray, List.set_cons_zero, List.set_cons_succ])
  refine planT_fork ?_
  refine planT_alloc rfl rfl (fun w => Tryz.zeroValue70 w) rfl (fun g30 w30 y30 hg30 hs30 hb30 => ?_) planT_end
  have E30 : Ext w0 w30 := Mod.trans E29 y30
  have HG30 := Lib.hid (And.intro hg30 (And.intro hs30 (And.intro hb30 (And.intro E30 (And.intro y30 E29)))))
  clear hg30 hs30 hb30
  refine ⟨fun _ => KF2.out _ E30, ?_⟩
  (try simp only [Act.put, List.setIfInBounds_toArray, List.set_cons_zero, List.set_cons_succ])
  refine planT_fork ?_
  refine planT_store rfl rfl rfl rfl (HG30.out.2.2.1) (by kernel_rfl) rfl (evArr_all (Sl.one (KXY.out.1).rd) (Sl.one (KXY.out.1).wr) (Sl.one (KXY.out.1).fr.sl)) (fun w31 m31 hs31 hb31 => ?_) planT_end
  have E31 : Ext w0 w31 := Mod.trans' E30 m31 (fun q hq => .inr (by obtain ⟨z23a, z23b, -, z23e, z23y, z23p⟩ := HG23.out; have z23f := z23e.size; have z23g := z23y.size; have z23q := z23p.size; obtain ⟨z29a, z29b, -, z29e, z29y, z29p⟩ := HG29.out; have z29f := z29e.size; have z29g := z29y.size; have z29q := z29p.size; obtain ⟨z30a, z30b, -, z30e, z30y, z30p⟩ := HG30.out; have z30f := z30e.size; have z30g := z30y.size; have z30q := z30p.size; have sy23 := y23.size; have sy29 := y29.size; have sy30 := y30.size; subst hq; omega))
  have HG31 := Lib.hid (And.intro hs31 (And.intro hb31 m31))
  clear hs31 hb31
  refine ⟨fun _ => KF2.out _ E31, ?_⟩
  (try simp only [Act.put])
  refine planT_fork ?_
  refine planT_store rfl rfl rfl rfl ((Mod.blk m31 (Ext.blk y30 HG29.out.2.2.1) (by obtain ⟨z23a, z23b, -, z23e, z23y, z23p⟩ := HG23.out; have z23f := z23e.size; have z23g := z23y.size; have z23q := z23p.size; obtain ⟨z29a, z29b, -, z29e, z29y, z29p⟩ := HG29.out; have z29f := z29e.size; have z29g := z29y.size; have z29q := z29p.size; obtain ⟨z30a, z30b, -, z30e, z30y, z30p⟩ := HG30.out; have z30f := z30e.size; have z30g := z30y.size; have z30q := z30p.size; have sy23 := y23.size; have sy29 := y29.size; have sy30 := y30.size; omega))) (by kernel_rfl) rfl (evArr_all (Sl.one (KXY.out.2.1).rd) (Sl.one (KXY.out.2.1).wr) (Sl.one (KXY.out.2.1).fr.sl)) (fun w32 m32 hs32 hb32 => ?_) planT_end
  have E32 : Ext w0 w32 := Mod.trans' E31 m32 (fun q hq => .inr (by obtain ⟨z23a, z23b, -, z23e, z23y, z23p⟩ := HG23.out; have z23f := z23e.size; have z23g := z23y.size; have z23q := z23p.size; obtain ⟨z29a, z29b, -, z29e, z29y, z29p⟩ := HG29.out; have z29f := z29e.size; have z29g := z29y.size; have z29q := z29p.size; obtain ⟨z30a, z30b, -, z30e, z30y, z30p⟩ := HG30.out; have z30f := z30e.size; have z30g := z30y.size; have z30q := z30p.size; have sy23 := y23.size; have sy29 := y29.size; have sy30 := y30.size; subst hq; omega))
  have HG32 := Lib.hid (And.intro hs32 (And.intro hb32 m32))
  clear hs32 hb32
  refine ⟨fun _ => KF2.out _ E32, ?_⟩
  (try simp only [Act.put])
  refine planT_fork ?_
  refine planT_store rfl rfl rfl rfl ((Mod.blk m32 (Mod.blk m31 (Ext.blk y30 (Ext.blk y29 HG23.out.2.2.1)) (by obtain ⟨z23a, z23b, -, z23e, z23y, z23p⟩ := HG23.out; have z23f := z23e.size; have z23g := z23y.size; have z23q := z23p.size; obtain ⟨z29a, z29b, -, z29e, z29y, z29p⟩ := HG29.out; have z29f := z29e.size; have z29g := z29y.size; have z29q := z29p.size; obtain ⟨z30a, z30b, -, z30e, z30y, z30p⟩ := HG30.out; have z30f := z30e.size; have z30g := z30y.size; have z30q := z30p.size; have sy23 := y23.size; have sy29 := y29.size; have sy30 := y30.size; omega)) (by obtain ⟨z23a, z23b, -, z23e, z23y, z23p⟩ := HG23.out; have z23f := z23e.size; have z23g := z23y.size; have z23q := z23p.size; obtain ⟨z29a, z29b, -, z29e, z29y, z29p⟩ := HG29.out; have z29f := z29e.size; have z29g := z29y.size; have z29q := z29p.size; obtain ⟨z30a, z30b, -, z30e, z30y, z30p⟩ := HG30.out; have z30f := z30e.size; have z30g := z30y.size; have z30q := z30p.size; have sy23 := y23.size; have sy29 := y29.size; have sy30 := y30.size; omega))) (by kernel_rfl) rfl (evArr_all (Sl.one (KXY.out.2.2).rd) (Sl.one (KXY.out.2.2).wr) (Sl.one (KXY.out.2.2).fr.sl)) (fun w33 m33 hs33 hb33 => ?_) planT_end
  have E33 : Ext w0 w33 := Mod.trans' E32 m33 (fun q hq => .inr (by obtain ⟨z23a, z23b, -, z23e, z23y, z23p⟩ := HG23.out; have z23f := z23e.size; have z23g := z23y.size; have z23q := z23p.size; obtain ⟨z29a, z29b, -, z29e, z29y, z29p⟩ := HG29.out; have z29f := z29e.size; have z29g := z29y.size; have z29q := z29p.size; obtain ⟨z30a, z30b, -, z30e, z30y, z30p⟩ := HG30.out; have z30f := z30e.size; have z30g := z30y.size; have z30q := z30p.size; have sy23 := y23.size; have sy29 := y29.size; have sy30 := y30.size; subst hq; omega))
  have HG33 := Lib.hid (And.intro hs33 (And.intro hb33 m33))
  clear hs33 hb33
  refine ⟨fun _ => KF2.out _ E33, ?_⟩
  (try simp only [Act.put])
  refine planT_nil ?_
  go_wp2_with fail
  go_meet
  exact ⟨g30, g29, g23, rfl, rfl, rfl, ⟨(Mod.blk m33 (Mod.blk m32 HG31.out.2.1 (by obtain ⟨z23a, z23b, -, z23e, z23y, z23p⟩ := HG23.out; have z23f := z23e.size; have z23g := z23y.size; have z23q := z23p.size; obtain ⟨z29a, z29b, -, z29e, z29y, z29p⟩ := HG29.out; have z29f := z29e.size; have z29g := z29y.size; have z29q := z29p.size; obtain ⟨z30a, z30b, -, z30e, z30y, z30p⟩ := HG30.out; have z30f := z30e.size; have z30g := z30y.size; have z30q := z30p.size; have sy23 := y23.size; have sy29 := y29.size; have sy30 := y30.size; omega)) (by obtain ⟨z23a, z23b, -, z23e, z23y, z23p⟩ := HG23.out; have z23f := z23e.size; have z23g := z23y.size; have z23q := z23p.size; obtain ⟨z29a, z29b, -, z29e, z29y, z29p⟩ := HG29.out; have z29f := z29e.size; have z29g := z29y.size; have z29q := z29p.size; obtain ⟨z30a, z30b, -, z30e, z30y, z30p⟩ := HG30.out; have z30f := z30e.size; have z30g := z30y.size; have z30q := z30p.size; have sy23 := y23.size; have sy29 := y29.size; have sy30 := y30.size; omega))⟩, ⟨(Mod.blk m33 HG32.out.2.1 (by obtain ⟨z23a, z23b, -, z23e, z23y, z23p⟩ := HG23.out; have z23f := z23e.size; have z23g := z23y.size; have z23q := z23p.size; obtain ⟨z29a, z29b, -, z29e, z29y, z29p⟩ := HG29.out; have z29f := z29e.size; have z29g := z29y.size; have z29q := z29p.size; obtain ⟨z30a, z30b, -, z30e, z30y, z30p⟩ := HG30.out; have z30f := z30e.size; have z30g := z30y.size; have z30q := z30p.size; have sy23 := y23.size; have sy29 := y29.size; have sy30 := y30.size; omega))⟩, ⟨HG33.out.2.1⟩, E33⟩
 case rest =>
  obtain ⟨b1, b2, b3, rfl, rfl, rfl, hc, KB⟩ := hcut.keep KXY.out.1 KXY.out.2.1 KXY.out.2.2
  rw [← HSQ.out.1, ← HSQ.out.2.1, ← HSQ.out.2.2] at KB
  clear hcut i0 i1 i2
  obtain ⟨⟨d0, d1, d2, d3, d4, d5, d6, d7, d8, d9⟩, ⟨f0, f1, f2, f3, f4, f5, f6, f7, f8, f9⟩, ⟨h0, h1, h2, h3, h4, h5, h6, h7, h8, h9⟩, -⟩ := KB.out _ (Mod.refl _ _)
  go_wp2_with fail
  refine (has_any _ ps L.ev.length _ ((HRS.out.ext (HW.out.2.2.trans hc)).ext (Mod.refl _ _)) p r).mono ?_
  rintro e v1 ⟨rfl, z1⟩
  have Z1 := Lib.hid (Mod.trans (Mod.refl _ _) z1)
  clear z1
  rw [hasB_nat hpl hrl, HSY.out]
  (try clear d0 d1 d2 d3 d4 d5 d6 d7 d8 d9 f0 f1 f2 f3 f4 f5 f6 f7 f8 f9 h0 h1 h2 h3 h4 h5 h6 h7 h8 h9)
  obtain ⟨⟨d0, d1, d2, d3, d4, d5, d6, d7, d8, d9⟩, ⟨f0, f1, f2, f3, f4, f5, f6, f7, f8, f9⟩, ⟨h0, h1, h2, h3, h4, h5, h6, h7, h8, h9⟩, -⟩ := KB.out _ Z1.out
  cases SY with
  | false =>
   go_wp2_with fail
   refine (has_any _ ph L.ev.length _ ((HRH.out.ext (HW.out.2.2.trans hc)).ext Z1.out) p r).mono ?_
   rintro e v3 ⟨rfl, z3⟩
   have Z3 := Lib.hid (Mod.trans Z1.out z3)
   clear z3
   rw [hasB_nat hpl hrl, HH1.out]
   (try clear d0 d1 d2 d3 d4 d5 d6 d7 d8 d9 f0 f1 f2 f3 f4 f5 f6 f7 f8 f9 h0 h1 h2 h3 h4 h5 h6 h7 h8 h9)
   obtain ⟨⟨d0, d1, d2, d3, d4, d5, d6, d7, d8, d9⟩, ⟨f0, f1, f2, f3, f4, f5, f6, f7, f8, f9⟩, ⟨h0, h1, h2, h3, h4, h5, h6, h7, h8, h9⟩, -⟩ := KB.out _ Z3.out
   cases H1 with
   | false =>
    go_wp2_with fail
    go_ret
    exact ⟨ret_bool (by rw [HB.out]; rfl), (HW.out.2.2.trans hc).trans Z3.out⟩
   | true =>
    go_wp2_with fail
    refine (has_any _ ph L.ev.length _ ((HRH.out.ext (HW.out.2.2.trans hc)).ext Z3.out) q r).mono ?_
    rintro e v4 ⟨rfl, z4⟩
    have Z4 := Lib.hid (Mod.trans Z3.out z4)
    clear z4
    rw [hasB_nat hql hrl, HH2.out]
    (try clear d0 d1 d2 d3 d4 d5 d6 d7 d8 d9 f0 f1 f2 f3 f4 f5 f6 f7 f8 f9 h0 h1 h2 h3 h4 h5 h6 h7 h8 h9)
    obtain ⟨⟨d0, d1, d2, d3, d4, d5, d6, d7, d8, d9⟩, ⟨f0, f1, f2, f3, f4, f5, f6, f7, f8, f9⟩, ⟨h0, h1, h2, h3, h4, h5, h6, h7, h8, h9⟩, -⟩ := KB.out _ Z4.out
    cases H2 with
    | false =>
     go_wp2_with fail
     refine (has_any _ ph L.ev.length _ ((HRH.out.ext (HW.out.2.2.trans hc)).ext Z4.out) p q).mono ?_
     rintro e v6 ⟨rfl, z6⟩
     have Z6 := Lib.hid (Mod.trans Z4.out z6)
     clear z6
     rw [hasB_nat hpl hql, HH3.out]
     (try clear d0 d1 d2 d3 d4 d5 d6 d7 d8 d9 f0 f1 f2 f3 f4 f5 f6 f7 f8 f9 h0 h1 h2 h3 h4 h5 h6 h7 h8 h9)
     obtain ⟨⟨d0, d1, d2, d3, d4, d5, d6, d7, d8, d9⟩, ⟨f0, f1, f2, f3, f4, f5, f6, f7, f8, f9⟩, ⟨h0, h1, h2, h3, h4, h5, h6, h7, h8, h9⟩, -⟩ := KB.out _ Z6.out
     cases H3 with
     | false =>
      go_wp2_with fail
      go_ret
      exact ⟨ret_bool (by rw [HB.out]; rfl), (HW.out.2.2.trans hc).trans Z6.out⟩
     | true =>
      cases S3 with
      | false =>
       go_wp2_with fail
       go_ret
       exact ⟨ret_bool (by rw [HB.out]; rfl), (HW.out.2.2.trans hc).trans Z6.out⟩
      | true =>
       go_wp2_with fail
       refine (equal_any _ ⟨y.ag, y.kind, S2, y.nt, y.blk, y.at_, y.size, y.rd, y.wr, y.fr⟩ ⟨z.ag, z.kind, true, z.nt, z.blk, z.at_, z.size, z.rd, z.wr, z.fr⟩ v t (KB.out _ Z6.out).2.2.2.2.1 (KB.out _ Z6.out).2.2.2.2.2).mono ?_
       rintro e v7 ⟨rfl, z7⟩
       have Z7 := Lib.hid (Mod.trans Z6.out z7)
       clear z7
       rw [show evEq ⟨y.ag, y.kind, S2, y.nt, y.blk, y.at_, y.size, y.rd, y.wr, y.fr⟩ ⟨z.ag, z.kind, true, z.nt, z.blk, z.at_, z.size, z.rd, z.wr, z.fr⟩ = Q2 from HQ2.out]
       (try clear d0 d1 d2 d3 d4 d5 d6 d7 d8 d9 f0 f1 f2 f3 f4 f5 f6 f7 f8 f9 h0 h1 h2 h3 h4 h5 h6 h7 h8 h9)
       obtain ⟨⟨d0, d1, d2, d3, d4, d5, d6, d7, d8, d9⟩, ⟨f0, f1, f2, f3, f4, f5, f6, f7, f8, f9⟩, ⟨h0, h1, h2, h3, h4, h5, h6, h7, h8, h9⟩, -⟩ := KB.out _ Z7.out
       cases Q2 with
       | false =>
        go_wp2_with fail
        go_ret
        exact ⟨ret_bool (by rw [HB.out]; rfl), (HW.out.2.2.trans hc).trans Z7.out⟩
       | true =>
        go_wp2_with fail
        go_ret
        exact ⟨ret_bool (by rw [HB.out]; rfl), (HW.out.2.2.trans hc).trans Z7.out⟩
    | true =>
     cases S1 with
     | false =>
      go_wp2_with fail
      refine (has_any _ ph L.ev.length _ ((HRH.out.ext (HW.out.2.2.trans hc)).ext Z4.out) p q).mono ?_
      rintro e v6 ⟨rfl, z6⟩
      have Z6 := Lib.hid (Mod.trans Z4.out z6)
      clear z6
      rw [hasB_nat hpl hql, HH3.out]
      (try clear d0 d1 d2 d3 d4 d5 d6 d7 d8 d9 f0 f1 f2 f3 f4 f5 f6 f7 f8 f9 h0 h1 h2 h3 h4 h5 h6 h7 h8 h9)
      obtain ⟨⟨d0, d1, d2, d3, d4, d5, d6, d7, d8, d9⟩, ⟨f0, f1, f2, f3, f4, f5, f6, f7, f8, f9⟩, ⟨h0, h1, h2, h3, h4, h5, h6, h7, h8, h9⟩, -⟩ := KB.out _ Z6.out
      cases H3 with
      | false =>
       go_wp2_with fail
       go_ret
       exact ⟨ret_bool (by rw [HB.out]; rfl), (HW.out.2.2.trans hc).trans Z6.out⟩
      | true =>
       cases S3 with
       | false =>
        go_wp2_with fail
        go_ret
        exact ⟨ret_bool (by rw [HB.out]; rfl), (HW.out.2.2.trans hc).trans Z6.out⟩
       | true =>
        go_wp2_with fail
        refine (equal_any _ ⟨y.ag, y.kind, S2, y.nt, y.blk, y.at_, y.size, y.rd, y.wr, y.fr⟩ ⟨z.ag, z.kind, true, z.nt, z.blk, z.at_, z.size, z.rd, z.wr, z.fr⟩ v t (KB.out _ Z6.out).2.2.2.2.1 (KB.out _ Z6.out).2.2.2.2.2).mono ?_
        rintro e v7 ⟨rfl, z7⟩
        have Z7 := Lib.hid (Mod.trans Z6.out z7)
        clear z7
        rw [show evEq ⟨y.ag, y.kind, S2, y.nt, y.blk, y.at_, y.size, y.rd, y.wr, y.fr⟩ ⟨z.ag, z.kind, true, z.nt, z.blk, z.at_, z.size, z.rd, z.wr, z.fr⟩ = Q2 from HQ2.out]
        (try clear d0 d1 d2 d3 d4 d5 d6 d7 d8 d9 f0 f1 f2 f3 f4 f5 f6 f7 f8 f9 h0 h1 h2 h3 h4 h5 h6 h7 h8 h9)
        obtain ⟨⟨d0, d1, d2, d3, d4, d5, d6, d7, d8, d9⟩, ⟨f0, f1, f2, f3, f4, f5, f6, f7, f8, f9⟩, ⟨h0, h1, h2, h3, h4, h5, h6, h7, h8, h9⟩, -⟩ := KB.out _ Z7.out
        cases Q2 with
        | false =>
         go_wp2_with fail
         go_ret
         exact ⟨ret_bool (by rw [HB.out]; rfl), (HW.out.2.2.trans hc).trans Z7.out⟩
        | true =>
         go_wp2_with fail
         go_ret
         exact ⟨ret_bool (by rw [HB.out]; rfl), (HW.out.2.2.trans hc).trans Z7.out⟩
     | true =>
      go_wp2_with fail
      refine (equal_any _ ⟨x.ag, x.kind, true, x.nt, x.blk, x.at_, x.size, x.rd, x.wr, x.fr⟩ ⟨y.ag, y.kind, S2, y.nt, y.blk, y.at_, y.size, y.rd, y.wr, y.fr⟩ u v (KB.out _ Z4.out).2.2.2.1 (KB.out _ Z4.out).2.2.2.2.1).mono ?_
      rintro e v5 ⟨rfl, z5⟩
      have Z5 := Lib.hid (Mod.trans Z4.out z5)
      clear z5
      rw [show evEq ⟨x.ag, x.kind, true, x.nt, x.blk, x.at_, x.size, x.rd, x.wr, x.fr⟩ ⟨y.ag, y.kind, S2, y.nt, y.blk, y.at_, y.size, y.rd, y.wr, y.fr⟩ = Q1 from HQ1.out]
      (try clear d0 d1 d2 d3 d4 d5 d6 d7 d8 d9 f0 f1 f2 f3 f4 f5 f6 f7 f8 f9 h0 h1 h2 h3 h4 h5 h6 h7 h8 h9)
      obtain ⟨⟨d0, d1, d2, d3, d4, d5, d6, d7, d8, d9⟩, ⟨f0, f1, f2, f3, f4, f5, f6, f7, f8, f9⟩, ⟨h0, h1, h2, h3, h4, h5, h6, h7, h8, h9⟩, -⟩ := KB.out _ Z5.out
      cases Q1 with
      | true =>
       go_wp2_with fail
       go_ret
       exact ⟨ret_bool (by rw [HB.out]; rfl), (HW.out.2.2.trans hc).trans Z5.out⟩
      | false =>
       go_wp2_with fail
       refine (has_any _ ph L.ev.length _ ((HRH.out.ext (HW.out.2.2.trans hc)).ext Z5.out) p q).mono ?_
       rintro e v6 ⟨rfl, z6⟩
       have Z6 := Lib.hid (Mod.trans Z5.out z6)
       clear z6
       rw [hasB_nat hpl hql, HH3.out]
       (try clear d0 d1 d2 d3 d4 d5 d6 d7 d8 d9 f0 f1 f2 f3 f4 f5 f6 f7 f8 f9 h0 h1 h2 h3 h4 h5 h6 h7 h8 h9)
       obtain ⟨⟨d0, d1, d2, d3, d4, d5, d6, d7, d8, d9⟩, ⟨f0, f1, f2, f3, f4, f5, f6, f7, f8, f9⟩, ⟨h0, h1, h2, h3, h4, h5, h6, h7, h8, h9⟩, -⟩ := KB.out _ Z6.out
       cases H3 with
       | false =>
        go_wp2_with fail
        go_ret
        exact ⟨ret_bool (by rw [HB.out]; rfl), (HW.out.2.2.trans hc).trans Z6.out⟩
       | true =>
        cases S3 with
        | false =>
         go_wp2_with fail
         go_ret
         exact ⟨ret_bool (by rw [HB.out]; rfl), (HW.out.2.2.trans hc).trans Z6.out⟩
        | true =>
         go_wp2_with fail
         refine (equal_any _ ⟨y.ag, y.kind, S2, y.nt, y.blk, y.at_, y.size, y.rd, y.wr, y.fr⟩ ⟨z.ag, z.kind, true, z.nt, z.blk, z.at_, z.size, z.rd, z.wr, z.fr⟩ v t (KB.out _ Z6.out).2.2.2.2.1 (KB.out _ Z6.out).2.2.2.2.2).mono ?_
         rintro e v7 ⟨rfl, z7⟩
         have Z7 := Lib.hid (Mod.trans Z6.out z7)
         clear z7
         rw [show evEq ⟨y.ag, y.kind, S2, y.nt, y.blk, y.at_, y.size, y.rd, y.wr, y.fr⟩ ⟨z.ag, z.kind, true, z.nt, z.blk, z.at_, z.size, z.rd, z.wr, z.fr⟩ = Q2 from HQ2.out]
         (try clear d0 d1 d2 d3 d4 d5 d6 d7 d8 d9 f0 f1 f2 f3 f4 f5 f6 f7 f8 f9 h0 h1 h2 h3 h4 h5 h6 h7 h8 h9)
         obtain ⟨⟨d0, d1, d2, d3, d4, d5, d6, d7, d8, d9⟩, ⟨f0, f1, f2, f3, f4, f5, f6, f7, f8, f9⟩, ⟨h0, h1, h2, h3, h4, h5, h6, h7, h8, h9⟩, -⟩ := KB.out _ Z7.out
         cases Q2 with
         | false =>
          go_wp2_with fail
          go_ret
          exact ⟨ret_bool (by rw [HB.out]; rfl), (HW.out.2.2.trans hc).trans Z7.out⟩
         | true =>
          go_wp2_with fail
          go_ret
          exact ⟨ret_bool (by rw [HB.out]; rfl), (HW.out.2.2.trans hc).trans Z7.out⟩
  | true =>
   go_wp2_with fail
   refine (equal_any _ ⟨y.ag, y.kind, S2, y.nt, y.blk, y.at_, y.size, y.rd, y.wr, y.fr⟩ ⟨z.ag, z.kind, S3, z.nt, z.blk, z.at_, z.size, z.rd, z.wr, z.fr⟩ v t (KB.out _ Z1.out).2.2.2.2.1 (KB.out _ Z1.out).2.2.2.2.2).mono ?_
   rintro e v2 ⟨rfl, z2⟩
   have Z2 := Lib.hid (Mod.trans Z1.out z2)
   clear z2
   rw [show evEq ⟨y.ag, y.kind, S2, y.nt, y.blk, y.at_, y.size, y.rd, y.wr, y.fr⟩ ⟨z.ag, z.kind, S3, z.nt, z.blk, z.at_, z.size, z.rd, z.wr, z.fr⟩ = Q2 from HQ2.out]
   (try clear d0 d1 d2 d3 d4 d5 d6 d7 d8 d9 f0 f1 f2 f3 f4 f5 f6 f7 f8 f9 h0 h1 h2 h3 h4 h5 h6 h7 h8 h9)
   obtain ⟨⟨d0, d1, d2, d3, d4, d5, d6, d7, d8, d9⟩, ⟨f0, f1, f2, f3, f4, f5, f6, f7, f8, f9⟩, ⟨h0, h1, h2, h3, h4, h5, h6, h7, h8, h9⟩, -⟩ := KB.out _ Z2.out
   cases Q2 with
   | true =>
    go_wp2_with fail
    go_ret
    exact ⟨ret_bool (by rw [HB.out]; rfl), (HW.out.2.2.trans hc).trans Z2.out⟩
   | false =>
    go_wp2_with fail
    refine (has_any _ ph L.ev.length _ ((HRH.out.ext (HW.out.2.2.trans hc)).ext Z2.out) p r).mono ?_
    rintro e v3 ⟨rfl, z3⟩
    have Z3 := Lib.hid (Mod.trans Z2.out z3)
    clear z3
    rw [hasB_nat hpl hrl, HH1.out]
    (try clear d0 d1 d2 d3 d4 d5 d6 d7 d8 d9 f0 f1 f2 f3 f4 f5 f6 f7 f8 f9 h0 h1 h2 h3 h4 h5 h6 h7 h8 h9)
    obtain ⟨⟨d0, d1, d2, d3, d4, d5, d6, d7, d8, d9⟩, ⟨f0, f1, f2, f3, f4, f5, f6, f7, f8, f9⟩, ⟨h0, h1, h2, h3, h4, h5, h6, h7, h8, h9⟩, -⟩ := KB.out _ Z3.out
    cases H1 with
    | false =>
     go_wp2_with fail
     go_ret
     exact ⟨ret_bool (by rw [HB.out]; rfl), (HW.out.2.2.trans hc).trans Z3.out⟩
    | true =>
     go_wp2_with fail
     refine (has_any _ ph L.ev.length _ ((HRH.out.ext (HW.out.2.2.trans hc)).ext Z3.out) q r).mono ?_
     rintro e v4 ⟨rfl, z4⟩
     have Z4 := Lib.hid (Mod.trans Z3.out z4)
     clear z4
     rw [hasB_nat hql hrl, HH2.out]
     (try clear d0 d1 d2 d3 d4 d5 d6 d7 d8 d9 f0 f1 f2 f3 f4 f5 f6 f7 f8 f9 h0 h1 h2 h3 h4 h5 h6 h7 h8 h9)
     obtain ⟨⟨d0, d1, d2, d3, d4, d5, d6, d7, d8, d9⟩, ⟨f0, f1, f2, f3, f4, f5, f6, f7, f8, f9⟩, ⟨h0, h1, h2, h3, h4, h5, h6, h7, h8, h9⟩, -⟩ := KB.out _ Z4.out
     cases H2 with
     | false =>
      go_wp2_with fail
      refine (has_any _ ph L.ev.length _ ((HRH.out.ext (HW.out.2.2.trans hc)).ext Z4.out) p q).mono ?_
      rintro e v6 ⟨rfl, z6⟩
      have Z6 := Lib.hid (Mod.trans Z4.out z6)
      clear z6
      rw [hasB_nat hpl hql, HH3.out]
      (try clear d0 d1 d2 d3 d4 d5 d6 d7 d8 d9 f0 f1 f2 f3 f4 f5 f6 f7 f8 f9 h0 h1 h2 h3 h4 h5 h6 h7 h8 h9)
      obtain ⟨⟨d0, d1, d2, d3, d4, d5, d6, d7, d8, d9⟩, ⟨f0, f1, f2, f3, f4, f5, f6, f7, f8, f9⟩, ⟨h0, h1, h2, h3, h4, h5, h6, h7, h8, h9⟩, -⟩ := KB.out _ Z6.out
      cases H3 with
      | false =>
       go_wp2_with fail
       go_ret
       exact ⟨ret_bool (by rw [HB.out]; rfl), (HW.out.2.2.trans hc).trans Z6.out⟩
      | true =>
       cases S3 with
       | false =>
        go_wp2_with fail
        go_ret
        exact ⟨ret_bool (by rw [HB.out]; rfl), (HW.out.2.2.trans hc).trans Z6.out⟩
       | true =>
        go_wp2_with fail
        refine (equal_any _ ⟨y.ag, y.kind, S2, y.nt, y.blk, y.at_, y.size, y.rd, y.wr, y.fr⟩ ⟨z.ag, z.kind, true, z.nt, z.blk, z.at_, z.size, z.rd, z.wr, z.fr⟩ v t (KB.out _ Z6.out).2.2.2.2.1 (KB.out _ Z6.out).2.2.2.2.2).mono ?_
        rintro e v7 ⟨rfl, z7⟩
        have Z7 := Lib.hid (Mod.trans Z6.out z7)
        clear z7
        rw [show evEq ⟨y.ag, y.kind, S2, y.nt, y.blk, y.at_, y.size, y.rd, y.wr, y.fr⟩ ⟨z.ag, z.kind, true, z.nt, z.blk, z.at_, z.size, z.rd, z.wr, z.fr⟩ = false from HQ2.out]
        (try clear d0 d1 d2 d3 d4 d5 d6 d7 d8 d9 f0 f1 f2 f3 f4 f5 f6 f7 f8 f9 h0 h1 h2 h3 h4 h5 h6 h7 h8 h9)
        obtain ⟨⟨d0, d1, d2, d3, d4, d5, d6, d7, d8, d9⟩, ⟨f0, f1, f2, f3, f4, f5, f6, f7, f8, f9⟩, ⟨h0, h1, h2, h3, h4, h5, h6, h7, h8, h9⟩, -⟩ := KB.out _ Z7.out
        go_wp2_with fail
        go_ret
        exact ⟨ret_bool (by rw [HB.out]; rfl), (HW.out.2.2.trans hc).trans Z7.out⟩
     | true =>
      cases S1 with
      | false =>
       go_wp2_with fail
       refine (has_any _ ph L.ev.length _ ((HRH.out.ext (HW.out.2.2.trans hc)).ext Z4.out) p q).mono ?_
       rintro e v6 ⟨rfl, z6⟩
       have Z6 := Lib.hid (Mod.trans Z4.out z6)
       clear z6
       rw [hasB_nat hpl hql, HH3.out]
       (try clear d0 d1 d2 d3 d4 d5 d6 d7 d8 d9 f0 f1 f2 f3 f4 f5 f6 f7 f8 f9 h0 h1 h2 h3 h4 h5 h6 h7 h8 h9)
       obtain ⟨⟨d0, d1, d2, d3, d4, d5, d6, d7, d8, d9⟩, ⟨f0, f1, f2, f3, f4, f5, f6, f7, f8, f9⟩, ⟨h0, h1, h2, h3, h4, h5, h6, h7, h8, h9⟩, -⟩ := KB.out _ Z6.out
       cases H3 with
       | false =>
        go_wp2_with fail
        go_ret
        exact ⟨ret_bool (by rw [HB.out]; rfl), (HW.out.2.2.trans hc).trans Z6.out⟩
       | true =>
        cases S3 with
        | false =>
         go_wp2_with fail
         go_ret
         exact ⟨ret_bool (by rw [HB.out]; rfl), (HW.out.2.2.trans hc).trans Z6.out⟩
        | true =>
         go_wp2_with fail
         refine (equal_any _ ⟨y.ag, y.kind, S2, y.nt, y.blk, y.at_, y.size, y.rd, y.wr, y.fr⟩ ⟨z.ag, z.kind, true, z.nt, z.blk, z.at_, z.size, z.rd, z.wr, z.fr⟩ v t (KB.out _ Z6.out).2.2.2.2.1 (KB.out _ Z6.out).2.2.2.2.2).mono ?_
         rintro e v7 ⟨rfl, z7⟩
         have Z7 := Lib.hid (Mod.trans Z6.out z7)
         clear z7
         rw [show evEq ⟨y.ag, y.kind, S2, y.nt, y.blk, y.at_, y.size, y.rd, y.wr, y.fr⟩ ⟨z.ag, z.kind, true, z.nt, z.blk, z.at_, z.size, z.rd, z.wr, z.fr⟩ = false from HQ2.out]
         (try clear d0 d1 d2 d3 d4 d5 d6 d7 d8 d9 f0 f1 f2 f3 f4 f5 f6 f7 f8 f9 h0 h1 h2 h3 h4 h5 h6 h7 h8 h9)
         obtain ⟨⟨d0, d1, d2, d3, d4, d5, d6, d7, d8, d9⟩, ⟨f0, f1, f2, f3, f4, f5, f6, f7, f8, f9⟩, ⟨h0, h1, h2, h3, h4, h5, h6, h7, h8, h9⟩, -⟩ := KB.out _ Z7.out
         go_wp2_with fail
         go_ret
         exact ⟨ret_bool (by rw [HB.out]; rfl), (HW.out.2.2.trans hc).trans Z7.out⟩
      | true =>
       go_wp2_with fail
       refine (equal_any _ ⟨x.ag, x.kind, true, x.nt, x.blk, x.at_, x.size, x.rd, x.wr, x.fr⟩ ⟨y.ag, y.kind, S2, y.nt, y.blk, y.at_, y.size, y.rd, y.wr, y.fr⟩ u v (KB.out _ Z4.out).2.2.2.1 (KB.out _ Z4.out).2.2.2.2.1).mono ?_
       rintro e v5 ⟨rfl, z5⟩
       have Z5 := Lib.hid (Mod.trans Z4.out z5)
       clear z5
       rw [show evEq ⟨x.ag, x.kind, true, x.nt, x.blk, x.at_, x.size, x.rd, x.wr, x.fr⟩ ⟨y.ag, y.kind, S2, y.nt, y.blk, y.at_, y.size, y.rd, y.wr, y.fr⟩ = Q1 from HQ1.out]
       (try clear d0 d1 d2 d3 d4 d5 d6 d7 d8 d9 f0 f1 f2 f3 f4 f5 f6 f7 f8 f9 h0 h1 h2 h3 h4 h5 h6 h7 h8 h9)
       obtain ⟨⟨d0, d1, d2, d3, d4, d5, d6, d7, d8, d9⟩, ⟨f0, f1, f2, f3, f4, f5, f6, f7, f8, f9⟩, ⟨h0, h1, h2, h3, h4, h5, h6, h7, h8, h9⟩, -⟩ := KB.out _ Z5.out
       cases Q1 with
       | true =>
        go_wp2_with fail
        go_ret
        exact ⟨ret_bool (by rw [HB.out]; rfl), (HW.out.2.2.trans hc).trans Z5.out⟩
       | false =>
        go_wp2_with fail
        refine (has_any _ ph L.ev.length _ ((HRH.out.ext (HW.out.2.2.trans hc)).ext Z5.out) p q).mono ?_
        rintro e v6 ⟨rfl, z6⟩
        have Z6 := Lib.hid (Mod.trans Z5.out z6)
        clear z6
        rw [hasB_nat hpl hql, HH3.out]
        (try clear d0 d1 d2 d3 d4 d5 d6 d7 d8 d9 f0 f1 f2 f3 f4 f5 f6 f7 f8 f9 h0 h1 h2 h3 h4 h5 h6 h7 h8 h9)
        obtain ⟨⟨d0, d1, d2, d3, d4, d5, d6, d7, d8, d9⟩, ⟨f0, f1, f2, f3, f4, f5, f6, f7, f8, f9⟩, ⟨h0, h1, h2, h3, h4, h5, h6, h7, h8, h9⟩, -⟩ := KB.out _ Z6.out
        cases H3 with
        | false =>
         go_wp2_with fail
         go_ret
         exact ⟨ret_bool (by rw [HB.out]; rfl), (HW.out.2.2.trans hc).trans Z6.out⟩
        | true =>
         cases S3 with
         | false =>
          go_wp2_with fail
          go_ret
          exact ⟨ret_bool (by rw [HB.out]; rfl), (HW.out.2.2.trans hc).trans Z6.out⟩
         | true =>
          go_wp2_with fail
          refine (equal_any _ ⟨y.ag, y.kind, S2, y.nt, y.blk, y.at_, y.size, y.rd, y.wr, y.fr⟩ ⟨z.ag, z.kind, true, z.nt, z.blk, z.at_, z.size, z.rd, z.wr, z.fr⟩ v t (KB.out _ Z6.out).2.2.2.2.1 (KB.out _ Z6.out).2.2.2.2.2).mono ?_
          rintro e v7 ⟨rfl, z7⟩
          have Z7 := Lib.hid (Mod.trans Z6.out z7)
          clear z7
          rw [show evEq ⟨y.ag, y.kind, S2, y.nt, y.blk, y.at_, y.size, y.rd, y.wr, y.fr⟩ ⟨z.ag, z.kind, true, z.nt, z.blk, z.at_, z.size, z.rd, z.wr, z.fr⟩ = false from HQ2.out]
          (try clear d0 d1 d2 d3 d4 d5 d6 d7 d8 d9 f0 f1 f2 f3 f4 f5 f6 f7 f8 f9 h0 h1 h2 h3 h4 h5 h6 h7 h8 h9)
          obtain ⟨⟨d0, d1, d2, d3, d4, d5, d6, d7, d8, d9⟩, ⟨f0, f1, f2, f3, f4, f5, f6, f7, f8, f9⟩, ⟨h0, h1, h2, h3, h4, h5, h6, h7, h8, h9⟩, -⟩ := KB.out _ Z7.out
          go_wp2_with fail
          go_ret
          exact ⟨ret_bool (by rw [HB.out]; rfl), (HW.out.2.2.trans hc).trans Z7.out⟩
end Go.Proofs.YtbhocahmhmafmaaGreat
