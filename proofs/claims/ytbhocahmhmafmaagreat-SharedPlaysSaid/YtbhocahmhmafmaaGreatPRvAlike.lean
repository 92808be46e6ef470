/-
  The contract of renref14.SameEvent. No condition. The contract of renref14.Same. No condition.
-/
import Derived.Test.YtbhocahmhmafmaaGreatPRvAt
import Derived.Test.YtbhocahmhmafmaaGreatPEvSame
import Derived.Test.YtbhocahmhmafmaaGreatPBaseBy
import Derived.Test.YtbhocahmhmafmaaGreatPRvRead
namespace Go.Proofs.YtbhocahmhmafmaaGreat
open Go.Ren Go.RowKit
set_option linter.unusedVariables false
set_option maxRecDepth 100000 in
set_option maxHeartbeats 3200000 in
theorem ralike_any (w : World) (a b : Ev) (v u : Vs) (ha : EvAt w a v) (hb : EvAt w b u) :
 Calls Tryz.prog 121 #[evV a v, evV b u] w (FPost (evSame a b) w) := by
 obtain ⟨k1, k2, k3, t1, t2, t3⟩ := ev_facts ha
 obtain ⟨k4, k5, k6, t4, t5, t6⟩ := ev_facts hb
 obtain ⟨w0, hw0⟩ : ∃ w0, w0 = (w.alloc (.cells (evArr a v) 116)).alloc (.cells (evArr b u) 116) := ⟨_, rfl⟩
 obtain ⟨g, hg⟩ : ∃ g, g = w.heap.size := ⟨_, rfl⟩
 have x0 : Ext w w0 := by rw [hw0]; exact ((Mod.refl _ _).alloc _).alloc _
 have b0 : REvBox w0 g a v := ⟨by rw [hw0, hg]; exact heap_alloc2_old _ _ _⟩
 have b1 : REvBox w0 (g + 1) b u := ⟨by rw [hw0, hg]; exact heap_alloc2_new _ _ _⟩
 obtain ⟨c0, c1, c2, c3, c4, c5, c6, c7, c8, c9⟩ := b0.cells
 obtain ⟨d0, d1, d2, d3, d4, d5, d6, d7, d8, d9⟩ := b1.cells
 have HW := Lib.hid (And.intro hw0 (And.intro hg (And.intro x0 (And.intro (ha.ext x0) (hb.ext x0)))))
 obtain ⟨B, hB⟩ : ∃ B, B = evSame a b := ⟨_, rfl⟩
 rw [← hB]
 have HB := Lib.hid hB
 clear hB hw0 hg x0 b0 b1 ha hb
 unfold evV
 by_cases hs : a.ag = b.ag ∧ a.kind = b.kind ∧ a.seq = b.seq ∧ a.nt = b.nt ∧ a.blk = b.blk ∧ a.at_ = b.at_ ∧ a.size = b.size
 case neg =>
  have hf : evSame a b = false := by unfold evSame; simp [hs]
  have HF := Lib.hid hf
  clear hf
  have HS := Lib.hid hs
  clear hs
  go_enter Tryz.func121, Tryz.ntmps121
  go_upto_region 1 with fail
  rw [← HW.out.1, ← HW.out.2.1]
  clear t1 t2 t3 t4 t5 t6 k1 k2 k3 k4 k5 k6
  go_wp2_with fail
  all_goals
   first
   | (exfalso; have h := HS.out; simp_all; done)
   | (go_ret; exact ⟨ret_bool (by rw [HB.out]; exact HF.out.symm), HW.out.2.2.1⟩)
 case pos =>
  obtain ⟨h1, h2, h3, h4, h5, h6, h7⟩ := hs
  have n1 : (a.ag == b.ag) = true := by simpa using h1
  have n2 : (a.kind == b.kind) = true := by simpa using h2
  have n3 : (a.seq == b.seq) = true := by simpa using h3
  have n4 : (a.nt == b.nt) = true := by simpa using h4
  have n5 : (a.blk == b.blk) = true := by simpa using h5
  have n6 : (a.at_ == b.at_) = true := by simpa using h6
  have n7 : (a.size == b.size) = true := by simpa using h7
  have he : evSame a b = ((a.rd == b.rd) && (a.wr == b.wr) && (a.fr == b.fr)) := by unfold evSame; simp [h1, h2, h3, h4, h5, h6, h7]
  have HE := Lib.hid he
  clear h1 h2 h3 h4 h5 h6 h7 he
  go_enter Tryz.func121, Tryz.ntmps121
  go_upto_region 1 with fail
  rw [← HW.out.1, ← HW.out.2.1]
  clear t1 t2 t3 t4 t5 t6 k1 k2 k3 k4 k5 k6
  go_wp2_with fail
  refine (bytes_any _ _ _ a.rd b.rd HW.out.2.2.2.1.rd HW.out.2.2.2.2.rd).mono ?_
  rintro r w1 ⟨rfl, rfl⟩
  cases r1 : (a.rd == b.rd) with
  | false =>
   have H1 := Lib.hid r1
   clear r1
   go_wp2_with fail
   go_ret
   exact ⟨ret_bool (by rw [HB.out, HE.out, H1.out]; rfl), HW.out.2.2.1⟩
  | true =>
   have H1 := Lib.hid r1
   clear r1
   go_wp2_with fail
   refine (bytes_any _ _ _ a.wr b.wr HW.out.2.2.2.1.wr HW.out.2.2.2.2.wr).mono ?_
   rintro r w1 ⟨rfl, rfl⟩
   cases r2 : (a.wr == b.wr) with
   | false =>
    have H2 := Lib.hid r2
    clear r2
    go_wp2_with fail
    go_ret
    exact ⟨ret_bool (by rw [HB.out, HE.out, H1.out, H2.out]; rfl), HW.out.2.2.1⟩
   | true =>
    have H2 := Lib.hid r2
    clear r2
    go_wp2_with fail
    refine (ints_any _ _ _ a.fr b.fr HW.out.2.2.2.1.fr HW.out.2.2.2.2.fr).mono ?_
    rintro r w1 ⟨rfl, dn, rfl⟩
    go_wp2_with fail
    go_ret
    exact ⟨ret_bool (by rw [HB.out, HE.out, H1.out, H2.out]; rfl), HW.out.2.2.1.drewN dn⟩
end Go.Proofs.YtbhocahmhmafmaaGreat
namespace Go.Proofs.YtbhocahmhmafmaaGreat
open Go.Ren Go.RowKit
set_option linter.unusedVariables false
set_option maxRecDepth 100000 in
set_option maxHeartbeats 1600000 in
theorem rlsame_any (w : World) (ve vp ue up : Value) (V U : Nat → Vs) (L K : Lg) (h1 : LogIn w ve vp V L) (h2 : LogIn w ue up U K) :
 Calls Tryz.prog 61 #[.agg #[ve, vp], .agg #[ue, up]] w (FPost (lgSame L K) w) := by
 have q1 := Sl.cells_eq h1.row
 have q2 := Sl.cells_eq h1.prow
 have q3 := Sl.cells_eq h2.row
 have q4 := Sl.cells_eq h2.prow
 have s1 := Sl.run_st (P := Tryz.prog) h1.row
 have s2 := Sl.run_st (P := Tryz.prog) h1.prow
 have s3 := Sl.run_st (P := Tryz.prog) h2.row
 have s4 := Sl.run_st (P := Tryz.prog) h2.prow
 have l1 := h1.row.run_len (P := Tryz.prog) IRe.und 3
 have l2 := h1.prow.run_len (P := Tryz.prog) IP.und 3
 have l3 := h2.row.run_len (P := Tryz.prog) IRe.und 3
 have l4 := h2.prow.run_len (P := Tryz.prog) IP.und 3
 have I1 := Lib.hid (h1.row.run_idx (P := Tryz.prog) IRe.und IRe.size .i64)
 have I2 := Lib.hid (h1.prow.run_idx (P := Tryz.prog) IP.und IP.size .i64)
 have I3 := Lib.hid (h2.row.run_idx (P := Tryz.prog) IRe.und IRe.size .i64)
 have I4 := Lib.hid (h2.prow.run_idx (P := Tryz.prog) IP.und IP.size .i64)
 have m1 : (L.ev.length : Int) ≤ 9223372036854775807 := by obtain ⟨_, c, _, q1, q2, _⟩ := h1.row.shape; simp only [maxLen] at q2; omega
 have m2 : (L.pr.length : Int) ≤ 9223372036854775807 := by obtain ⟨_, c, _, q1, q2, _⟩ := h1.prow.shape; simp only [maxLen] at q2; omega
 obtain ⟨w0, hw0⟩ : ∃ w0, w0 = (w.alloc (.cells #[ve, vp] 57)).alloc (.cells #[ue, up] 57) := ⟨_, rfl⟩
 obtain ⟨g, hg⟩ : ∃ g, g = w.heap.size := ⟨_, rfl⟩
 have x0 : Ext w w0 := by rw [hw0]; exact ((Mod.refl _ _).alloc _).alloc _
 have b0 : RLogBox w0 g ve vp := ⟨by rw [hw0, hg]; exact heap_alloc2_old _ _ _⟩
 have b1 : RLogBox w0 (g + 1) ue up := ⟨by rw [hw0, hg]; exact heap_alloc2_new _ _ _⟩
 obtain ⟨c0, c1⟩ := b0.cells
 obtain ⟨d0, d1⟩ := b1.cells
 have HW := Lib.hid (And.intro hw0 (And.intro hg x0))
 have KE : Hid (∀ w', Ext w0 w' → LogIn w' ve vp V L ∧ LogIn w' ue up U K ∧ RLogBox w' g ve vp ∧ RLogBox w' (g + 1) ue up) := Lib.hid fun w' x => ⟨h1.ext (x0.trans x), h2.ext (x0.trans x), b0.ext x, b1.ext x⟩
 obtain ⟨B, hB⟩ : ∃ B, B = lgSame L K := ⟨_, rfl⟩
 rw [← hB]
 have HB := Lib.hid hB
 clear hB hw0 hg x0 b0 b1 h1 h2
 by_cases hl : L.ev.length = K.ev.length
 case neg =>
  have ht : ((L.ev.length : Int) != (K.ev.length : Int)) = true := by rw [bne_iff_ne]; omega
  have HF : Hid (B = false) := Lib.hid (by rw [HB.out]; unfold lgSame evsSame; simp [hl])
  clear hl
  go_enter Tryz.func61, Tryz.ntmps61
  go_upto_region 1 with fail
  rw [← HW.out.1, ← HW.out.2.1]
  go_wp2_with fail
  go_ret
  exact ⟨ret_bool (by rw [HF.out]), HW.out.2.2⟩
 case pos =>
 have ht : ((L.ev.length : Int) != (K.ev.length : Int)) = false := by rw [bne_eq_false_iff_eq]; omega
 by_cases hp : L.pr.length = K.pr.length
 case neg =>
  have ht2 : ((L.pr.length : Int) != (K.pr.length : Int)) = true := by rw [bne_iff_ne]; omega
  have HF : Hid (B = false) := Lib.hid (by
   rw [HB.out]; unfold lgSame
   have : (L.pr == K.pr) = false := by rw [beq_eq_false_iff_ne]; exact fun e => hp (by rw [e])
   rw [this, Bool.and_false])
  clear hl hp
  go_enter Tryz.func61, Tryz.ntmps61
  go_upto_region 1 with fail
  rw [← HW.out.1, ← HW.out.2.1]
  go_wp2_with fail
  go_ret
  exact ⟨ret_bool (by rw [HF.out]), HW.out.2.2⟩
 case pos =>
 have ht2 : ((L.pr.length : Int) != (K.pr.length : Int)) = false := by rw [bne_eq_false_iff_eq]; omega
 have HL := Lib.hid hl
 have HP := Lib.hid hp
 clear hl hp
 go_enter Tryz.func61, Tryz.ntmps61
 go_upto_region 1 with fail
 rw [← HW.out.1, ← HW.out.2.1]
 clear s1 s2 s3 s4
 go_wp2_with fail
 clear c0 c1 d0 d1
 go_loopw [5] (fun s wr => ∃ k : Nat, k ≤ L.ev.length ∧ s = .int .i64 (k : Int) ∧ (∀ j, j < k → evSame (evn L.ev j) (evn K.ev j) = true) ∧ Ext w0 wr) (fun i _ => L.ev.length - (intOf i).toNat)
 case atStart => exact ⟨0, Nat.zero_le _, rfl, fun j hj => absurd hj (Nat.not_lt_zero _), Mod.refl _ _⟩
 case round =>
  obtain ⟨k, hk, rfl, hq, X⟩ := hrel
  have HS := Lib.hid hq
  have HX := Lib.hid X
  obtain ⟨c0, c1⟩ := (KE.out _ X).2.2.1.cells
  clear hq
  by_cases hlt : k < L.ev.length
  · have hlt' : (k : Int) < (L.ev.length : Int) := by omega
    have hlt2 : k < K.ev.length := by have := HL.out; omega
    have i1 := I1.out k hlt
    have i3 := I3.out k hlt2
    have ea := (KE.out _ X).1.ev k hlt
    have eb := (KE.out _ X).2.1.ev k hlt2
    have KF1 : ∀ w', Ext wr w' → RLogBox w' g ve vp ∧ RLogBox w' (g + 1) ue up ∧ LogIn w' ve vp V L ∧ LogIn w' ue up U K := fun w' z => by obtain ⟨z1, z2, z3, z4⟩ := KE.out _ (X.trans z); exact ⟨z3, z4, z1, z2⟩
    obtain ⟨a, ha⟩ : ∃ a, a = evn L.ev k := ⟨_, rfl⟩
    obtain ⟨b, hb⟩ : ∃ b, b = evn K.ev k := ⟨_, rfl⟩
    obtain ⟨v, hv⟩ : ∃ v, v = V k := ⟨_, rfl⟩
    obtain ⟨u, hu⟩ : ∃ u, u = U k := ⟨_, rfl⟩
    obtain ⟨A1, hA1⟩ : ∃ A, A = at_ ve (k * 10) := ⟨_, rfl⟩
    obtain ⟨A2, hA2⟩ : ∃ A, A = at_ ue (k * 10) := ⟨_, rfl⟩
    rw [← ha, ← hv] at ea
    rw [← hb, ← hu] at eb
    rw [← hA1] at i1
    rw [← hA2] at i3
    have KF : Hid (∀ w', Ext wr w' → w'.cell? ⟨g, 0, none⟩ = some ve ∧ w'.cell? ⟨g + 1, 0, none⟩ = some ue ∧ w'.cell? A1 = some (.int .i64 (a).ag) ∧ w'.cell? ⟨A1.block, A1.off + 1, none⟩ = some (.int .i64 (a).kind) ∧ w'.cell? ⟨A1.block, A1.off + 2, none⟩ = some (.bool (a).seq) ∧ w'.cell? ⟨A1.block, A1.off + 3, none⟩ = some (.bool (a).nt) ∧ w'.cell? ⟨A1.block, A1.off + 4, none⟩ = some (.int .i64 (a).blk) ∧ w'.cell? ⟨A1.block, A1.off + 5, none⟩ = some (.int .i64 (a).at_) ∧ w'.cell? ⟨A1.block, A1.off + 6, none⟩ = some (.int .i64 (a).size) ∧ w'.cell? ⟨A1.block, A1.off + 7, none⟩ = some v.r ∧ w'.cell? ⟨A1.block, A1.off + 8, none⟩ = some v.w ∧ w'.cell? ⟨A1.block, A1.off + 9, none⟩ = some v.f ∧ w'.cell? A2 = some (.int .i64 (b).ag) ∧ w'.cell? ⟨A2.block, A2.off + 1, none⟩ = some (.int .i64 (b).kind) ∧ w'.cell? ⟨A2.block, A2.off + 2, none⟩ = some (.bool (b).seq) ∧ w'.cell? ⟨A2.block, A2.off + 3, none⟩ = some (.bool (b).nt) ∧ w'.cell? ⟨A2.block, A2.off + 4, none⟩ = some (.int .i64 (b).blk) ∧ w'.cell? ⟨A2.block, A2.off + 5, none⟩ = some (.int .i64 (b).at_) ∧ w'.cell? ⟨A2.block, A2.off + 6, none⟩ = some (.int .i64 (b).size) ∧ w'.cell? ⟨A2.block, A2.off + 7, none⟩ = some u.r ∧ w'.cell? ⟨A2.block, A2.off + 8, none⟩ = some u.w ∧ w'.cell? ⟨A2.block, A2.off + 9, none⟩ = some u.f) := Lib.hid fun w' z => by
     obtain ⟨z1, z2, z3, z4⟩ := KF1 _ z
     have h1 := z3.cells hlt
     have h2 := z4.cells hlt2
     rw [← ha, ← hv, ← hA1] at h1
     rw [← hb, ← hu, ← hA2] at h2
     obtain ⟨a0, a1, a2, a3, a4, a5, a6, a7, a8, a9⟩ := h1
     exact ⟨z1.cells.1, z2.cells.1, a0, a1, a2, a3, a4, a5, a6, a7, a8, a9, h2⟩
    obtain ⟨k1, k2, k3, -⟩ := ev_facts ea
    obtain ⟨k4, k5, k6, -⟩ := ev_facts eb
    have HAB := Lib.hid (And.intro ea eb)
    obtain ⟨Q, hQ⟩ : ∃ Q, Q = evSame a b := ⟨_, rfl⟩
    have HQ := Lib.hid hQ.symm
    have HQE : Hid (Q = evSame (evn L.ev k) (evn K.ev k)) := Lib.hid (by rw [hQ, ha, hb])
    clear ha hb hv hu hA1 hA2 ea eb KF1 X hQ
    go_upto_region 6 with fail
    clear c0 c1
    refine wp_region_plan [(0, true), (1, true), (2, true), (3, true), (4, true), (5, true), (6, true), (7, true), (8, true), (9, true), (10, false), (11, true)] (fun w' => w'.cell? ⟨g, 0, none⟩ = some ve ∧ w'.cell? ⟨g + 1, 0, none⟩ = some ue ∧ w'.cell? A1 = some (.int .i64 (a).ag) ∧ w'.cell? ⟨A1.block, A1.off + 1, none⟩ = some (.int .i64 (a).kind) ∧ w'.cell? ⟨A1.block, A1.off + 2, none⟩ = some (.bool (a).seq) ∧ w'.cell? ⟨A1.block, A1.off + 3, none⟩ = some (.bool (a).nt) ∧ w'.cell? ⟨A1.block, A1.off + 4, none⟩ = some (.int .i64 (a).blk) ∧ w'.cell? ⟨A1.block, A1.off + 5, none⟩ = some (.int .i64 (a).at_) ∧ w'.cell? ⟨A1.block, A1.off + 6, none⟩ = some (.int .i64 (a).size) ∧ w'.cell? ⟨A1.block, A1.off + 7, none⟩ = some v.r ∧ w'.cell? ⟨A1.block, A1.off + 8, none⟩ = some v.w ∧ w'.cell? ⟨A1.block, A1.off + 9, none⟩ = some v.f ∧ w'.cell? A2 = some (.int .i64 (b).ag) ∧ w'.cell? ⟨A2.block, A2.off + 1, none⟩ = some (.int .i64 (b).kind) ∧ w'.cell? ⟨A2.block, A2.off + 2, none⟩ = some (.bool (b).seq) ∧ w'.cell? ⟨A2.block, A2.off + 3, none⟩ = some (.bool (b).nt) ∧ w'.cell? ⟨A2.block, A2.off + 4, none⟩ = some (.int .i64 (b).blk) ∧ w'.cell? ⟨A2.block, A2.off + 5, none⟩ = some (.int .i64 (b).at_) ∧ w'.cell? ⟨A2.block, A2.off + 6, none⟩ = some (.int .i64 (b).size) ∧ w'.cell? ⟨A2.block, A2.off + 7, none⟩ = some u.r ∧ w'.cell? ⟨A2.block, A2.off + 8, none⟩ = some u.w ∧ w'.cell? ⟨A2.block, A2.off + 9, none⟩ = some u.f) (by kernel_rfl) (by kernel_rfl) (by kernel_rfl) (fun _ d _ _ _ h => by cases d <;> exact h) (KF.out _ (Mod.drew (Mod.refl _ _))) ?_
    simp only [planL, getO]
    iterate 10 (refine plan_take (v := ?_) (by rfl) (fun wS hS => ?_) ?_; rotate_left; (focus ((try dsimp only at hS); go_simp; (try with_reducible rfl); done)); (try simp only [Act.put, List.setIfInBounds_toArray, List.set_cons_zero, List.set_cons_succ]))
    refine plan_call (fun K hK => ?_)
    go_simp
    go_at_call 121; refine (ralike_any _ a b v u (HAB.out.1.ext (Mod.drew (Mod.refl _ _))) (HAB.out.2.ext (Mod.drew (Mod.refl _ _)))).mono ?_; rintro r w3 ⟨rfl, x3⟩; have E3 : Ext wr w3 := Mod.trans (Mod.drew (Mod.refl _ _)) x3; rw [HQ.out]
    refine hK.out _ _ (KF.out _ E3) ?_
    clear hK K
    (try simp only [Act.put, List.setIfInBounds_toArray, List.set_cons_zero, List.set_cons_succ])
    (refine plan_take (v := ?_) (by rfl) (fun wS hS => ?_) ?_; rotate_left; (focus ((try dsimp only at hS); go_simp; (try with_reducible rfl); done)); (try simp only [Act.put, List.setIfInBounds_toArray, List.set_cons_zero, List.set_cons_succ]))
    refine plan_nil ?_
    cases Q with
    | true =>
     have HT := Lib.hid (upto_succ HS.out HQE.out.symm)
     go_wp2_with fail
     go_roundw
     case rel => exact ⟨k + 1, by omega, by go_num, HT.out, HX.out.trans E3⟩
     case measure => simp [intOf]; omega
    | false =>
     have HF : Hid (B = false) := Lib.hid (by rw [HB.out]; unfold lgSame; rw [evsSame_false hlt HQE.out.symm]; rfl)
     go_wp2_with fail
     go_ret
     exact ⟨ret_bool (by rw [HF.out]), HW.out.2.2.trans (HX.out.trans E3)⟩
  · have hlt' : ¬ (k : Int) < (L.ev.length : Int) := by omega
    have HT : Hid (B = (L.pr == K.pr)) := Lib.hid (by
     have : evsSame L.ev K.ev = true := by
      unfold evsSame
      simp only [Bool.and_eq_true, decide_eq_true_eq, List.all_eq_true, List.mem_range]
      exact ⟨HL.out, fun j hj => HS.out j (by omega)⟩
     rw [HB.out]; unfold lgSame; rw [this]; rfl)
    clear X
    go_wp2_with fail
    clear c0 c1
    go_loopw [6] (fun s wr => ∃ i : Nat, i ≤ L.pr.length ∧ s = .int .i64 (i : Int) ∧ L.pr.take i = K.pr.take i ∧ Ext w0 wr) (fun i _ => L.pr.length - (intOf i).toNat)
    case atStart => exact ⟨0, Nat.zero_le _, rfl, rfl, HX.out⟩
    case round =>
     obtain ⟨i, hi, rfl, hq, X⟩ := hrel
     have HS2 := Lib.hid hq
     have HX2 := Lib.hid X
     obtain ⟨c0, c1⟩ := (KE.out _ X).2.2.1.cells
     clear hq
     by_cases hil : i < L.pr.length
     · have hil' : (i : Int) < (L.pr.length : Int) := by omega
       have hil2 : i < K.pr.length := by have := HP.out; omega
       have i2 := I2.out i hil
       have i4 := I4.out i hil2
       obtain ⟨p1, hp1⟩ : ∃ p, p = (prn L.pr i).1 := ⟨_, rfl⟩
       obtain ⟨p2, hp2⟩ : ∃ p, p = (prn L.pr i).2 := ⟨_, rfl⟩
       obtain ⟨q1, hq1⟩ : ∃ p, p = (prn K.pr i).1 := ⟨_, rfl⟩
       obtain ⟨q2, hq2⟩ : ∃ p, p = (prn K.pr i).2 := ⟨_, rfl⟩
       obtain ⟨A1, hA1⟩ : ∃ A, A = at_ vp (i * 2) := ⟨_, rfl⟩
       obtain ⟨A2, hA2⟩ : ∃ A, A = at_ up (i * 2) := ⟨_, rfl⟩
       rw [← hA1] at i2
       rw [← hA2] at i4
       have KF : Hid (∀ w', Ext wr w' → w'.cell? ⟨g, 1, none⟩ = some vp ∧ w'.cell? ⟨g + 1, 1, none⟩ = some up ∧ w'.cell? A1 = some (.int .i64 p1) ∧ w'.cell? ⟨A1.block, A1.off + 1, none⟩ = some (.int .i64 p2) ∧ w'.cell? A2 = some (.int .i64 q1) ∧ w'.cell? ⟨A2.block, A2.off + 1, none⟩ = some (.int .i64 q2)) := Lib.hid fun w' z => by
        obtain ⟨z1, z2, z3, z4⟩ := KE.out _ (X.trans z)
        have h1 := z1.pcells hil
        have h2 := z2.pcells hil2
        rw [← hp1, ← hp2, ← hA1] at h1
        rw [← hq1, ← hq2, ← hA2] at h2
        exact ⟨z3.cells.2, z4.cells.2, h1.1, h1.2, h2.1, h2.2⟩
       have hq := run_neq_pair (P := Tryz.prog) (T := 112) (e := 3) Tryz.underlying112 Tryz.underlying3 (by kernel_rfl) p1 p2 q1 q2
       have hg : ∀ (op : BinOp) (x y : Operand) (w' : World), (eqGuard op 112 x y (.agg #[.int .i64 p1, .int .i64 p2]) (.agg #[.int .i64 q1, .int .i64 q2])).run Tryz.prog w' = .ok () w' := fun op x y w' => run_eqGuard_agg w' op _ x y _ _ (by kernel_rfl)
       have hpe : L.pr[i] = (p1, p2) := by rw [← prn_eq hil, hp1, hp2]
       have hqe : K.pr[i] = (q1, q2) := by rw [← prn_eq hil2, hq1, hq2]
       have HPQ := Lib.hid (And.intro hpe hqe)
       clear hp1 hp2 hq1 hq2 hA1 hA2 X hpe hqe
       by_cases hx : p1 = q1 ∧ p2 = q2
       · rw [show (!(p1 == q1 && p2 == q2)) = false by simp [hx]] at hq
         have HE : Hid (L.pr[i] = K.pr[i]) := Lib.hid (by rw [HPQ.out.1, HPQ.out.2, hx.1, hx.2])
         clear hx
         go_upto_region 11 with fail
         clear c0 c1
         refine wp_region_plan [(0, true), (1, true), (2, true), (3, true), (4, true), (5, true), (6, true), (7, true), (8, true), (9, true), (10, true)] (fun w' => w'.cell? ⟨g, 1, none⟩ = some vp ∧ w'.cell? ⟨g + 1, 1, none⟩ = some up ∧ w'.cell? A1 = some (.int .i64 p1) ∧ w'.cell? ⟨A1.block, A1.off + 1, none⟩ = some (.int .i64 p2) ∧ w'.cell? A2 = some (.int .i64 q1) ∧ w'.cell? ⟨A2.block, A2.off + 1, none⟩ = some (.int .i64 q2)) (by kernel_rfl) (by kernel_rfl) (by kernel_rfl) (fun _ d _ _ _ h => by cases d <;> exact h) (KF.out _ (Mod.drew (Mod.refl _ _))) ?_
         simp only [planL, getO]
         iterate 11 (refine plan_take (v := ?_) (by rfl) (fun wS hS => ?_) ?_; rotate_left; (focus ((try dsimp only at hS); go_simp; (try with_reducible rfl); done)); (try simp only [Act.put, List.setIfInBounds_toArray, List.set_cons_zero, List.set_cons_succ]))
         refine plan_nil ?_
         go_wp2_with fail
         go_roundw
         case rel => exact ⟨i + 1, by omega, by go_num, take_step HS2.out hil hil2 HE.out, HX2.out.drew⟩
         case measure => simp [intOf]; omega
       · rw [show (!(p1 == q1 && p2 == q2)) = true by
          cases hc : (p1 == q1 && p2 == q2) with
          | false => rfl
          | true => simp at hc; exact absurd hc hx] at hq
         have HF : Hid (B = false) := Lib.hid (by
          rw [HT.out, beq_eq_false_iff_ne]
          intro e
          have h1 := HPQ.out.1
          have h2 := HPQ.out.2
          have h3 : L.pr[i] = K.pr[i] := by simp only [e]
          rw [h1, h2] at h3
          injection h3 with h4 h5
          exact hx ⟨h4, h5⟩)
         clear hx
         go_upto_region 11 with fail
         clear c0 c1
         refine wp_region_plan [(0, true), (1, true), (2, true), (3, true), (4, true), (5, true), (6, true), (7, true), (8, true), (9, true), (10, true)] (fun w' => w'.cell? ⟨g, 1, none⟩ = some vp ∧ w'.cell? ⟨g + 1, 1, none⟩ = some up ∧ w'.cell? A1 = some (.int .i64 p1) ∧ w'.cell? ⟨A1.block, A1.off + 1, none⟩ = some (.int .i64 p2) ∧ w'.cell? A2 = some (.int .i64 q1) ∧ w'.cell? ⟨A2.block, A2.off + 1, none⟩ = some (.int .i64 q2)) (by kernel_rfl) (by kernel_rfl) (by kernel_rfl) (fun _ d _ _ _ h => by cases d <;> exact h) (KF.out _ (Mod.drew (Mod.refl _ _))) ?_
         simp only [planL, getO]
         iterate 11 (refine plan_take (v := ?_) (by rfl) (fun wS hS => ?_) ?_; rotate_left; (focus ((try dsimp only at hS); go_simp; (try with_reducible rfl); done)); (try simp only [Act.put, List.setIfInBounds_toArray, List.set_cons_zero, List.set_cons_succ]))
         refine plan_nil ?_
         go_wp2_with fail
         go_ret
         exact ⟨ret_bool (by rw [HF.out]), HW.out.2.2.trans HX2.out.drew⟩
     · have hil' : ¬ (i : Int) < (L.pr.length : Int) := by omega
       have HE : Hid (B = true) := Lib.hid (by
        have h3 := HS2.out
        rw [List.take_of_length_le (by omega), List.take_of_length_le (by have := HP.out; omega)] at h3
        rw [HT.out, h3]; simp)
       clear X
       go_wp2_with fail
       go_ret
       exact ⟨ret_bool (by rw [HE.out]), HW.out.2.2.trans HX2.out⟩
end Go.Proofs.YtbhocahmhmafmaaGreat
