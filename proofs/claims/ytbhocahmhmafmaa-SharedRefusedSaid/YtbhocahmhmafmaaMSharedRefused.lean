/-
  SharedRefused: the walk of renlaw20.SharedRefused. No condition.
-/
import Derived.Test.YtbhocahmhmafmaaMShPlayed
import Derived.Test.YtbhocahmhmafmaaMShFirst
import Derived.Test.YtbhocahmhmafmaaMShView
import Derived.Test.YtbhocahmhmafmaaMShFinal
import Derived.Test.YtbhocahmhmafmaaMBlkAt
import Derived.BigQuiet
namespace Go.Proofs.Ytbhocahmhmafmaa
open Go.Ren Go.RowKit
set_option linter.unusedVariables false
theorem shfinalf_at {g : Nat} {w : World} {z : ShV} {s : Shm} (h : ShIn w z s) (hg : g = z.g) : Calls Try.prog 14 #[ptr g] w (BytesPostF (shFin s s.n).M w) := by subst hg; exact shfinalf_any w z s h
theorem shpend_at {g : Nat} {w : World} {z : ShV} {s : Shm} (h : ShIn w z s) (hg : g = z.g) (a : Int) : Calls Try.prog 17 #[ptr g, .int .i64 a] w fun e w' => e = .returned (.int .i64 (shPend s a : Int)) ∧ w = w' := by subst hg; exact shpend_any w z s h a
theorem act_at {g : Nat} {w : World} {z : ShV} {s : Shm} (h : ShIn w z s) (hg : g = z.g) (o : Op20) (v : Value) (ho : Op20In w o v) : Calls Try.prog 21 #[ptr g, o20V o v] w (ActPost z s (shAct s o) w) := by subst hg; exact act_any w z s h o v ho
set_option maxRecDepth 100000 in
set_option maxHeartbeats 6400000 in
theorem refused20_all (w : World) (n r : Int) (v : Value) (l : List Op20) (hv : Ops20 w v l) :
    Calls Try.prog 4 #[.int .i64 n, .int .i64 r, v] w fun e w' => e = .returned (.bool true) ∧ Ext w w' := by
  obtain ⟨xs, hs⟩ := hv.len
  have ll := hs.run_len (P := Try.prog) IO20.und 3
  have HI := Lib.hid (hs.run_idx (P := Try.prog) IO20.und IO20.size .i64)
  have HV := Lib.hid hv
  clear hv hs
  go_enter Try.func4, Try.ntmps4
  go_wp2_with fail
  refine (first20_any _).mono ?_
  rintro e w1 ⟨rfl, x1⟩
  have H1 := Lib.hid x1
  clear x1
  go_wp2_with fail
  refine (fr_new _ n r).mono ?_
  rintro e w2 ⟨hA, hB⟩
  by_cases hc : 1 ≤ n ∧ n ≤ 64 ∧ 0 ≤ r ∧ r ≤ 64
  case neg =>
    obtain ⟨rfl, rfl⟩ := hB hc
    clear hA hB hc
    go_wp2_with fail
    refine (first20_any _).mono ?_
    rintro e w9 ⟨rfl, x9⟩
    go_wp2_with fail
    go_ret
    exact ⟨rfl, H1.out.trans x9⟩
  case pos =>
    obtain ⟨g, rfl, h2⟩ := hA hc
    obtain ⟨N, rfl⟩ : ∃ N : Nat, n = (N : Int) := ⟨n.toNat, by omega⟩
    obtain ⟨R, rfl⟩ : ∃ R : Nat, r = (R : Int) := ⟨r.toNat, by omega⟩
    rw [Int.toNat_natCast, Int.toNat_natCast] at h2
    have H2 : Hid (FreshSh w w2 g (shNew N R)) := Lib.hid (by
      obtain ⟨⟨z, e1, e2, e3⟩, e4⟩ := h2
      exact ⟨⟨z, e1, e2, fun k hk => Nat.le_trans H1.out.size (e3 k hk)⟩, H1.out.trans e4⟩)
    clear hA hB hc h2
    go_wp2_with fail
    refine (few20_any _ v l (HV.out.ext H2.out.x)).mono ?_
    rintro e w3 ⟨⟨rr, rfl, hfew⟩, x3⟩
    have HP3 := Lib.hid (H2.out.ext x3)
    have HFEW0 := Lib.hid hfew
    clear x3 hfew
    cases rr with
    | false =>
      go_wp2_with fail
      refine (first20_any _).mono ?_
      rintro e w9 ⟨rfl, x9⟩
      go_wp2_with fail
      go_ret
      exact ⟨rfl, HP3.out.x.trans x9⟩
    | true =>
      have HFEW := Lib.hid (HFEW0.out rfl)
      clear HFEW0
      go_wp2_with fail
      refine (fr_make HP3.out 16).mono ?_
      rintro e w4 ⟨rfl, h4⟩
      obtain ⟨S0, hS0⟩ : ∃ S0, S0 = (shMake (shNew N R) 16).2 := ⟨_, rfl⟩
      rw [← hS0] at h4
      have H4 := Lib.hid h4
      clear h4 hS0
      go_wp2_with fail
      go_loopw [9] (fun s9 wr => ∃ k : Nat, k ≤ l.length ∧ s9 = .int .i64 (k : Int) ∧ FreshSh w wr g (shRun S0 (l.take k))) (fun i _ => l.length - (intOf i).toNat)
      case atStart => exact ⟨0, Nat.zero_le _, rfl, H4.out⟩
      case round =>
        obtain ⟨k, hk, rfl, hf⟩ := hrel
        have HF0 := Lib.hid hf
        have HL60 := HFEW.out
        clear hf
        by_cases hlt : k < l.length
        · have hlt' : (k : Int) < (l.length : Int) := by omega
          have in0 := HI.out k hlt
          obtain ⟨u, hu, bb0, bb⟩ := HV.out.cells hlt
          obtain ⟨o, ho⟩ : ∃ o, o = l[k] := ⟨_, rfl⟩
          obtain ⟨A, hA⟩ : ∃ A, A = at_ v (k * 11) := ⟨_, rfl⟩
          obtain ⟨S, hS⟩ : ∃ S, S = shRun S0 (l.take k) := ⟨_, rfl⟩
          have HS : Hid (shRun S0 (l.take (k + 1)) = (shAct S o).2) := Lib.hid (by rw [ho, hS]; exact run_take hlt)
          have HF : Hid (FreshSh w wr g S) := Lib.hid (by rw [hS]; exact HF0.out)
          rw [← hA] at in0 bb0 bb
          rw [← ho] at hu bb0 bb
          obtain ⟨kd, ag, bl, pa, sz, op, sq, nt, wd, wt, fr⟩ := o
          have KC : Hid (∀ w', Ext w w' → w'.cell? A = some (.int .i64 kd) ∧ w'.cell? ⟨A.block, A.off + 1, none⟩ = some (.int .i64 ag) ∧ w'.cell? ⟨A.block, A.off + 2, none⟩ = some (.int .i64 bl) ∧ w'.cell? ⟨A.block, A.off + 3, none⟩ = some (.int .i64 pa) ∧ w'.cell? ⟨A.block, A.off + 4, none⟩ = some (.int .i64 sz) ∧ w'.cell? ⟨A.block, A.off + 5, none⟩ = some (.int .i64 op) ∧ w'.cell? ⟨A.block, A.off + 6, none⟩ = some (.bool sq) ∧ w'.cell? ⟨A.block, A.off + 7, none⟩ = some (.bool nt) ∧ w'.cell? ⟨A.block, A.off + 8, none⟩ = some (.int .u64 (wd : Int)) ∧ w'.cell? ⟨A.block, A.off + 9, none⟩ = some (.int .u64 (wt : Int)) ∧ w'.cell? ⟨A.block, A.off + 10, none⟩ = some u) := Lib.hid fun w' x =>
            ⟨Ext.cell x bb0, Ext.cell x (bb 1 _ (by decide) rfl), Ext.cell x (bb 2 _ (by decide) rfl), Ext.cell x (bb 3 _ (by decide) rfl), Ext.cell x (bb 4 _ (by decide) rfl), Ext.cell x (bb 5 _ (by decide) rfl), Ext.cell x (bb 6 _ (by decide) rfl), Ext.cell x (bb 7 _ (by decide) rfl), Ext.cell x (bb 8 _ (by decide) rfl), Ext.cell x (bb 9 _ (by decide) rfl), Ext.cell x (bb 10 _ (by decide) rfl)⟩
          have HU := Lib.hid hu
          clear hu bb0 bb ho hA hS HF0
          go_wp2_with fail
          refine (fr_log HF.out).mono ?_
          rintro e w5 ⟨hv5, pv5, V5, rfl, lo5, x5, -⟩
          have ln5 := lo5.row.sl.run_len (P := Try.prog) IEv.und 3
          obtain ⟨la5, lc5, hh5, -⟩ := lo5.row.sl.shape
          obtain ⟨lp5, cp5, hp5, -⟩ := lo5.prow.sl.shape
          subst hh5 hp5
          have fl5 : ∀ w' : World, (Instr.field 46 (.agg #[.slice la5 S.L.ev.length lc5, .slice lp5 S.L.pr.length cp5]) 0).run Try.prog w' = .ok (.slice la5 S.L.ev.length lc5) w' := fun w' => by kernel_rfl
          have H5 := Lib.hid (And.intro (HF.out.ext x5) x5)
          obtain ⟨M, hM⟩ : ∃ M, M = S.L.ev.length := ⟨_, rfl⟩
          rw [← hM] at fl5 ln5 ⊢
          obtain ⟨h5, hh5⟩ : ∃ h5, h5 = Value.slice la5 M lc5 := ⟨_, rfl⟩
          rw [← hh5] at fl5 ln5 ⊢
          have HMS : Hid (M = S.L.ev.length ∧ M ≤ 1000) := Lib.hid ⟨hM, by rw [hM]; exact HF.out.ok.ev⟩
          clear lo5 x5 hM hh5
          go_wp2_with fail
          obtain ⟨⟨z, hg, hz5, fz⟩, xz⟩ := H5.out.1
          have HZ5 := Lib.hid (And.intro hg (And.intro hz5 (And.intro fz xz)))
          clear hg hz5 fz xz
          refine (shfinalf_at HZ5.out.2.1 HZ5.out.1).mono ?_
          rintro e w6 ⟨u6, V6, rfl, r6, x6, f6⟩
          have H6 := Lib.hid (And.intro r6 (And.intro x6 f6))
          clear r6 x6 f6 fl5 ln5
          obtain ⟨c0, c1, c2, c3, c4, c5, c6, c7, c8, c9, c10⟩ := KC.out _ (HZ5.out.2.2.2.trans H6.out.2.1)
          go_wp2_with fail
          refine (shpend_at (HZ5.out.2.1.ext H6.out.2.1) HZ5.out.1 ag).mono ?_
          rintro e w7 ⟨rfl, rfl⟩
          obtain ⟨PD, hPD⟩ : ∃ P, P = shPend S ag := ⟨_, rfl⟩
          rw [← hPD]
          have HPD := Lib.hid hPD
          clear hPD
          go_wp2_with fail
          refine (act_at (HZ5.out.2.1.ext H6.out.2.1) HZ5.out.1 ⟨kd, ag, bl, pa, sz, op, sq, nt, wd, wt, fr⟩ u (HU.out.ext (HZ5.out.2.2.2.trans H6.out.2.1))).mono ?_
          rintro e w7 ⟨rfl, P7⟩
          have hOK := act_ok S ⟨kd, ag, bl, pa, sz, op, sq, nt, wd, wt, fr⟩
          have hER := act_err S ⟨kd, ag, bl, pa, sz, op, sq, nt, wd, wt, fr⟩
          have hQU := act_quiet S ⟨kd, ag, bl, pa, sz, op, sq, nt, wd, wt, fr⟩
          obtain ⟨S', hSE⟩ : ∃ S', S' = (shAct S ⟨kd, ag, bl, pa, sz, op, sq, nt, wd, wt, fr⟩).2 := ⟨_, rfl⟩
          obtain ⟨E, hEE⟩ : ∃ E, E = (shAct S ⟨kd, ag, bl, pa, sz, op, sq, nt, wd, wt, fr⟩).1.2 := ⟨_, rfl⟩
          rw [← hSE] at P7 hOK hER hQU
          rw [← hEE] at hOK hER ⊢
          have HLAW := Lib.hid (And.intro hOK (And.intro hER hQU))
          have HSE := Lib.hid hSE
          have H7 : Hid (FreshSh w w7 g S') := Lib.hid (FreshSh.to HZ5.out.1 HZ5.out.2.2.1 (HZ5.out.2.2.2.trans H6.out.2.1) P7)
          have HR7 : Hid (RowsIn w7 u6 V6 (shFin S S.n).M.length (fun i => (blk (shFin S S.n).M i).b)) := Lib.hid (by
            obtain ⟨z', _, _, m7, _⟩ := P7
            exact H6.out.1.mod m7 (fun q hq hz => by have h1 := H6.out.2.2 q hq; have h2 := HZ5.out.2.1.lt hz; omega))
          clear hOK hER hQU P7 hEE hSE c0 c1 c2 c3 c4 c5 c6 c7 c8 c9 c10
          go_wp2_with fail
          refine (fr_log H7.out).mono ?_
          rintro e w9 ⟨hv, pv, V, rfl, lo, x9, -⟩
          obtain ⟨la1, lc1, hhv, -⟩ := lo.row.sl.shape
          obtain ⟨la2, lc2, hpv, -⟩ := lo.prow.sl.shape
          subst hhv hpv
          go_upto_region 14 with fail
          obtain ⟨M', hM'⟩ : ∃ M, M = S'.L.ev.length := ⟨_, rfl⟩
          rw [← hM'] at lo ⊢
          obtain ⟨ve, hve⟩ : ∃ v, v = Value.slice la1 M' lc1 := ⟨_, rfl⟩
          obtain ⟨vp, hvp⟩ : ∃ v, v = Value.slice la2 S'.L.pr.length lc2 := ⟨_, rfl⟩
          rw [← hve, ← hvp] at lo ⊢
          obtain ⟨w10, hw10⟩ : ∃ W, W = w9.alloc (.cells #[ve, vp] 46) := ⟨_, rfl⟩
          obtain ⟨g9, hg9⟩ : ∃ g, g = w9.heap.size := ⟨_, rfl⟩
          have x10 : Ext w9 w10 := by rw [hw10]; exact (Mod.refl _ _).alloc _
          have bx : LogBox w10 g9 ve vp := ⟨by rw [hw10, hg9]; exact heap_alloc_new _ _⟩
          rw [← hw10, ← hg9]
          have li := (log_in lo H7.out.ok).ext x10
          have H10 := Lib.hid ((H7.out.ext x9).ext x10)
          have HR10 := Lib.hid ((HR7.out.ext x9).ext x10)
          have ln := li.row.run_len (P := Try.prog) IEv.und 3
          rw [← hM'] at ln
          have HLI := Lib.hid (And.intro li (And.intro bx hM'))
          have b0 := bx.cells.1
          obtain ⟨g0, g1, g2, g3, g4, g5, g6, -⟩ := KC.out _ H10.out.x
          clear hve hvp hw10 hg9 x10 bx li lo x9 hM'
          by_cases hq : kd < 0 ∨ 4 < kd
          case pos =>
            obtain rfl : M' = M := by rw [HLI.out.2.2, HMS.out.1, HLAW.out.2.2 hq]
            rcases (by omega : (¬ 4 < kd ∧ kd < 0) ∨ 4 < kd) with ⟨z1, z2⟩ | z1
            all_goals
              clear hq
              go_wp2_with fail
              go_roundw
              case rel => exact ⟨k + 1, by omega, by go_num, by rw [HS.out, ← HSE.out]; exact H10.out.ext (Mod.refl _ _)⟩
              case measure => simp [intOf]; omega
          case neg =>
            have hkd : 0 ≤ kd ∧ kd ≤ 4 := by omega
            have z1 : ¬ 4 < kd := by omega
            have z2 : ¬ kd < 0 := by omega
            by_cases hE : E = 0
            case neg =>
              have hE' : (E != 0) = true := by simpa using hE
              have HSS : Hid (S' = S) := Lib.hid (HLAW.out.2.1 hkd hE)
              obtain rfl : M' = M := by rw [HLI.out.2.2, HMS.out.1, HSS.out]
              clear hE hkd hq
              go_wp2_with fail
              refine (fr_final H10.out).mono ?_
              rintro e v1 ⟨u1, V1, rfl, r1, x1⟩
              rw [HSS.out] at r1
              have HX1 := Lib.hid (And.intro r1 x1)
              clear r1 x1
              go_wp2_with fail
              refine (sameBytes_any _ _ _ _ _ _ _ HX1.out.1 (HR10.out.ext HX1.out.2) (by have h1 := fin_ok HF.out.ok S.n (Nat.le_refl _); have := h1.bk.cnt; omega)).mono ?_
              rintro e v2 ⟨rfl, j, rfl⟩
              have HX2 : Hid (Ext w10 (v1.drewN j)) := Lib.hid (HX1.out.2.trans ((Mod.refl _ _).drewN j))
              obtain ⟨h0, h1, -⟩ := KC.out _ (H10.out.x.trans HX2.out)
              clear g0 g1 g2 g3 g4 g5 g6
              go_wp2_with fail
              refine (fr_pend (H10.out.ext HX2.out) ag).mono ?_
              rintro e v3 ⟨rfl, rfl⟩
              rw [HSS.out, ← HPD.out]
              go_wp2_with fail
              go_roundw
              case rel => exact ⟨k + 1, by omega, by go_num, by rw [HS.out, ← HSE.out]; exact H10.out.ext HX2.out⟩
              case measure => simp [intOf]; omega
            case pos =>
              have hE' : (E != 0) = false := by simpa using hE
              have hOK := HLAW.out.1 hkd hE
              obtain ⟨ev, he1, he2, he3⟩ := hOK
              obtain rfl : M' = M + 1 := by rw [HLI.out.2.2, HMS.out.1, he1]; simp
              have hMl : M < S'.L.ev.length := by rw [← HLI.out.2.2]; omega
              have hen : evn S'.L.ev M = ev := by rw [he1, HMS.out.1]; exact evn_at
              have hM1000 := HMS.out.2
              have IX := HLI.out.1.row.run_idx (P := Try.prog) IEv.und IEv.size .i64 M hMl
              obtain ⟨B, hB⟩ : ∃ B, B = at_ ve (M * 10) := ⟨_, rfl⟩
              rw [← hB] at IX
              have HFD : Hid (ev.ag = ag ∧ (kd < 4 → ev.blk = bl ∧ ev.at_ = pa ∧ ev.size = sz ∧ (1 < kd → ev.seq = true))) := Lib.hid ⟨he2, he3⟩
              have KX : Hid (∀ w', Ext w10 w' → w'.cell? ⟨g9, 0, none⟩ = some ve ∧ (w'.cell? B = some (.int .i64 ev.ag) ∧ w'.cell? ⟨B.block, B.off + 2, none⟩ = some (.bool ev.seq) ∧ w'.cell? ⟨B.block, B.off + 4, none⟩ = some (.int .i64 ev.blk) ∧ w'.cell? ⟨B.block, B.off + 5, none⟩ = some (.int .i64 ev.at_) ∧ w'.cell? ⟨B.block, B.off + 6, none⟩ = some (.int .i64 ev.size)) ∧ w'.cell? A = some (.int .i64 kd) ∧ w'.cell? ⟨A.block, A.off + 1, none⟩ = some (.int .i64 ag) ∧ w'.cell? ⟨A.block, A.off + 2, none⟩ = some (.int .i64 bl) ∧ w'.cell? ⟨A.block, A.off + 3, none⟩ = some (.int .i64 pa) ∧ w'.cell? ⟨A.block, A.off + 4, none⟩ = some (.int .i64 sz)) := Lib.hid fun w' x => by
                have hc := (HLI.out.1.ext x).cells hMl
                rw [← hB, hen] at hc
                obtain ⟨k0, k1, k2, k3, k4, -⟩ := KC.out w' (H10.out.x.trans x)
                exact ⟨(HLI.out.2.1.ext x).cells.1, ⟨hc.1, hc.2.2.1, hc.2.2.2.2.1, hc.2.2.2.2.2.1, hc.2.2.2.2.2.2.1⟩, k0, k1, k2, k3, k4⟩
              have am : IntKind.i64.wrap ((M : Int) + 1) = ((M + 1 : Nat) : Int) := by rw [IntWalk.i64_in _ (by omega)]; omega
              clear hE hq he1 he2 he3 hen hB b0 g0 g1 g2 g3 g4 g5 g6 z1 z2
              obtain ⟨b0, ⟨a0, a1, a2, a3, a4⟩, g0, g1, g2, g3, g4⟩ := KX.out w10 (Mod.refl _ _)
              rw [HFD.out.1] at a0 KX
              rcases (by omega : kd = 0 ∨ kd = 1 ∨ kd = 2 ∨ kd = 3 ∨ kd = 4) with rfl | rfl | rfl | rfl | rfl
              · obtain ⟨q1, q2, q3, q4⟩ := HFD.out.2 (by decide)
                rw [q1, q2, q3] at KX
                clear a0 a1 a2 a3 a4 q1 q2 q3 q4
                obtain ⟨-, ⟨a0, a1, a2, a3, a4⟩, -⟩ := KX.out w10 (Mod.refl _ _)
                clear hkd hMl
                go_wp2_with fail
                go_quiet (fail)
                obtain ⟨wB, hwB⟩ : ∃ W, W = w10.drewN nq := ⟨_, rfl⟩
                have xB : Ext w10 wB := by rw [hwB]; exact (Mod.refl _ _).drewN nq
                rw [← hwB]
                obtain ⟨d0, ⟨e0, e1, e2, e3, e4⟩, f0, f1, f2, f3, f4⟩ := KX.out wB xB
                have HXB := Lib.hid xB
                clear hwB xB b0 a0 a1 a2 a3 a4 g0 g1 g2 g3 g4
                go_wp2_with fail
                go_quiet (fail)
                obtain ⟨wC, hwC⟩ : ∃ W, W = wB.drewN nq := ⟨_, rfl⟩
                have xC : Ext w10 wC := by rw [hwC]; exact HXB.out.trans ((Mod.refl _ _).drewN _)
                rw [← hwC]
                have HXC := Lib.hid xC
                clear hwC xC
                go_wp2_with fail
                go_roundw
                case rel => exact ⟨k + 1, by omega, by go_num, by rw [HS.out, ← HSE.out]; exact H10.out.ext HXC.out⟩
                case measure => simp [intOf]; omega
              · obtain ⟨q1, q2, q3, q4⟩ := HFD.out.2 (by decide)
                rw [q1, q2, q3] at KX
                clear a0 a1 a2 a3 a4 q1 q2 q3 q4
                obtain ⟨-, ⟨a0, a1, a2, a3, a4⟩, -⟩ := KX.out w10 (Mod.refl _ _)
                clear hkd hMl
                go_wp2_with fail
                go_quiet (fail)
                obtain ⟨wB, hwB⟩ : ∃ W, W = w10.drewN nq := ⟨_, rfl⟩
                have xB : Ext w10 wB := by rw [hwB]; exact (Mod.refl _ _).drewN nq
                rw [← hwB]
                obtain ⟨d0, ⟨e0, e1, e2, e3, e4⟩, f0, f1, f2, f3, f4⟩ := KX.out wB xB
                have HXB := Lib.hid xB
                clear hwB xB b0 a0 a1 a2 a3 a4 g0 g1 g2 g3 g4
                go_wp2_with fail
                go_quiet (fail)
                obtain ⟨wC, hwC⟩ : ∃ W, W = wB.drewN nq := ⟨_, rfl⟩
                have xC : Ext w10 wC := by rw [hwC]; exact HXB.out.trans ((Mod.refl _ _).drewN _)
                rw [← hwC]
                have HXC := Lib.hid xC
                clear hwC xC
                go_wp2_with fail
                go_roundw
                case rel => exact ⟨k + 1, by omega, by go_num, by rw [HS.out, ← HSE.out]; exact H10.out.ext HXC.out⟩
                case measure => simp [intOf]; omega
              · obtain ⟨q1, q2, q3, q4⟩ := HFD.out.2 (by decide)
                rw [q1, q2, q3] at KX
                rw [q4 (by decide)] at KX
                clear a0 a1 a2 a3 a4 q1 q2 q3 q4
                obtain ⟨-, ⟨a0, a1, a2, a3, a4⟩, -⟩ := KX.out w10 (Mod.refl _ _)
                clear hkd hMl
                go_wp2_with fail
                go_quiet (fail)
                obtain ⟨wB, hwB⟩ : ∃ W, W = w10.drewN nq := ⟨_, rfl⟩
                have xB : Ext w10 wB := by rw [hwB]; exact (Mod.refl _ _).drewN nq
                rw [← hwB]
                obtain ⟨d0, ⟨e0, e1, e2, e3, e4⟩, f0, f1, f2, f3, f4⟩ := KX.out wB xB
                have HXB := Lib.hid xB
                clear hwB xB b0 a0 a1 a2 a3 a4 g0 g1 g2 g3 g4
                go_wp2_with fail
                go_quiet (fail)
                obtain ⟨wC, hwC⟩ : ∃ W, W = wB.drewN nq := ⟨_, rfl⟩
                have xC : Ext w10 wC := by rw [hwC]; exact HXB.out.trans ((Mod.refl _ _).drewN _)
                rw [← hwC]
                have HXC := Lib.hid xC
                clear hwC xC
                go_wp2_with fail
                go_roundw
                case rel => exact ⟨k + 1, by omega, by go_num, by rw [HS.out, ← HSE.out]; exact H10.out.ext HXC.out⟩
                case measure => simp [intOf]; omega
              · obtain ⟨q1, q2, q3, q4⟩ := HFD.out.2 (by decide)
                rw [q1, q2, q3] at KX
                rw [q4 (by decide)] at KX
                clear a0 a1 a2 a3 a4 q1 q2 q3 q4
                obtain ⟨-, ⟨a0, a1, a2, a3, a4⟩, -⟩ := KX.out w10 (Mod.refl _ _)
                clear hkd hMl
                go_wp2_with fail
                go_quiet (fail)
                obtain ⟨wB, hwB⟩ : ∃ W, W = w10.drewN nq := ⟨_, rfl⟩
                have xB : Ext w10 wB := by rw [hwB]; exact (Mod.refl _ _).drewN nq
                rw [← hwB]
                obtain ⟨d0, ⟨e0, e1, e2, e3, e4⟩, f0, f1, f2, f3, f4⟩ := KX.out wB xB
                have HXB := Lib.hid xB
                clear hwB xB b0 a0 a1 a2 a3 a4 g0 g1 g2 g3 g4
                go_wp2_with fail
                go_quiet (fail)
                obtain ⟨wC, hwC⟩ : ∃ W, W = wB.drewN nq := ⟨_, rfl⟩
                have xC : Ext w10 wC := by rw [hwC]; exact HXB.out.trans ((Mod.refl _ _).drewN _)
                rw [← hwC]
                have HXC := Lib.hid xC
                clear hwC xC
                go_wp2_with fail
                go_roundw
                case rel => exact ⟨k + 1, by omega, by go_num, by rw [HS.out, ← HSE.out]; exact H10.out.ext HXC.out⟩
                case measure => simp [intOf]; omega
              · skip
                clear hkd hMl
                go_wp2_with fail
                go_quiet (fail)
                obtain ⟨wB, hwB⟩ : ∃ W, W = w10.drewN nq := ⟨_, rfl⟩
                have xB : Ext w10 wB := by rw [hwB]; exact (Mod.refl _ _).drewN nq
                rw [← hwB]
                obtain ⟨d0, ⟨e0, e1, e2, e3, e4⟩, f0, f1, f2, f3, f4⟩ := KX.out wB xB
                have HXB := Lib.hid xB
                clear hwB xB b0 a0 a1 a2 a3 a4 g0 g1 g2 g3 g4
                go_wp2_with fail
                go_quiet (fail)
                obtain ⟨wC, hwC⟩ : ∃ W, W = wB.drewN nq := ⟨_, rfl⟩
                have xC : Ext w10 wC := by rw [hwC]; exact HXB.out.trans ((Mod.refl _ _).drewN _)
                rw [← hwC]
                have HXC := Lib.hid xC
                clear hwC xC
                go_wp2_with fail
                go_roundw
                case rel => exact ⟨k + 1, by omega, by go_num, by rw [HS.out, ← HSE.out]; exact H10.out.ext HXC.out⟩
                case measure => simp [intOf]; omega
        · have hlt' : ¬ (k : Int) < (l.length : Int) := by omega
          go_wp2_with fail
          refine (first20_any _).mono ?_
          rintro e w8 ⟨rfl, x8⟩
          go_wp2_with fail
          go_ret
          exact ⟨rfl, HF0.out.x.trans x8⟩
end Go.Proofs.Ytbhocahmhmafmaa
