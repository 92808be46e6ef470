/-
  The contract of (*shared.Shared).Store. No condition.
-/
import Derived.Test.YtbhocahmhmafmaaMShLoad
namespace Go.Proofs.Ytbhocahmhmafmaa
open Go.Ren Go.RowKit
set_option linter.unusedVariables false
def StorePost (z : ShV) (s : Shm) (r : Int × Shm) (w : World) (e : Ending) (w' : World) : Prop := e = .returned (.int .i64 r.1) ∧ ShTo z s r.2 w w'
/-- The last event's own lists, where buffers and blocks alone have turned since. -/
theorem q_own {w : World} {z : ShV} {s : Shm} {e : Ev} {v : Vs} {hv' : Value} {SQ' : Nat → Nat → Prop} {s3 : Shm} (hl : s3.L = (shPush s e).L) (h3 : ShIn w { z with hv := hv', V := evUpd z.V s.L.ev.length v, SQ := SQ' } s3) : EvOwn w e v ∧ ∀ k, EvFp v k → ¬ z.U k := by
  have h2 := h3.log.ev s.L.ev.length (by rw [hl]; show _ < (s.L.ev ++ [e]).length; simp)
  have e1 : evn s3.L.ev s.L.ev.length = e := by rw [hl]; exact evn_at
  have e2 : evUpd z.V s.L.ev.length v s.L.ev.length = v := by simp [evUpd]
  rw [e1] at h2
  have h4 : EvOwn w e (evUpd z.V s.L.ev.length v s.L.ev.length) := h2
  rw [e2] at h4
  refine ⟨h4, fun k hk => h3.lu k (.inr (.inr (.inr (.inr ⟨s.L.ev.length, by rw [hl]; show _ < (s.L.ev ++ [e]).length; simp, ?_⟩))))⟩
  show EvFp (evUpd z.V s.L.ev.length v s.L.ev.length) k
  rw [e2]; exact hk
set_option maxRecDepth 100000 in
set_option maxHeartbeats 1600000 in
theorem shstore_any (w : World) (z : ShV) (s : Shm) (h : ShIn w z s) (ag k pa size : Int) (m : Nat) (hm : m < 18446744073709551616) (seq nt : Bool) :
    Calls Try.prog 10 #[ptr z.g, .int .i64 ag, .int .i64 k, .int .i64 pa, .int .i64 size, .int .u64 (m : Int), .bool seq, .bool nt] w (StorePost z s (shStore s ag k pa size m seq nt) w) := by
  have HS := Lib.hid h
  have HM := Lib.hid hm
  clear hm
  obtain ⟨C, hC⟩ : ∃ C, C = shC s ag k pa size := ⟨_, rfl⟩
  obtain ⟨g, hg⟩ : ∃ g, g = z.g := ⟨_, rfl⟩
  by_cases hc : C = 0
  case neg =>
    have HR : Hid (shStore s ag k pa size m seq nt = (C, s)) := Lib.hid (by
      have e : shE s ag k pa size 1 = C := by unfold shE; rw [← hC, if_pos hc]
      unfold shStore; rw [e, if_pos hc])
    have hb : (C != 0) = true := by simpa using hc
    have HC := Lib.hid hC
    have HG := Lib.hid hg
    rw [HR.out, ← hg]
    clear hc hC hg h
    go_enter Try.func10, Try.ntmps10
    go_wp2_with fail
    refine (shcheck_at HG.out HS.out ag k pa size).mono ?_
    rintro e w' ⟨rfl, rfl⟩
    rw [← HC.out]
    go_wp2_with fail
    go_ret
    exact ⟨rfl, HS.out.to (Mod.refl _ _)⟩
  case pos =>
    have hC0 : shC s ag k pa size = 0 := by rw [← hC]; exact hc
    clear hC hc C
    by_cases hf : 1000 ≤ s.L.ev.length
    · have HR : Hid (shStore s ag k pa size m seq nt = (11, s)) := Lib.hid (by
        have e : shE s ag k pa size 1 = 11 := by unfold shE; rw [hC0, if_neg (by simp), if_neg (by omega), if_pos hf]
        unfold shStore; rw [e, if_pos (by omega)])
      have HC := Lib.hid (And.intro hC0 hf)
      have HG := Lib.hid hg
      rw [HR.out, ← hg]
      clear hC0 hf hg h
      go_enter Try.func10, Try.ntmps10
      go_wp2_with fail
      refine (shcheck_at HG.out HS.out ag k pa size).mono ?_
      rintro e w' ⟨rfl, rfl⟩
      rw [HC.out.1]
      go_wp2_with fail
      refine (shfull_at HG.out HS.out).mono ?_
      rintro e w' ⟨rfl, rfl⟩
      rw [decide_eq_true HC.out.2]
      go_wp2_with fail
      go_ret
      exact ⟨rfl, HS.out.to (Mod.refl _ _)⟩
    · have hA := shC_0 hC0
      obtain ⟨i, hi, hin⟩ := hA.ag
      have HR : Hid (shStore s ag k pa size m seq nt = (0, shSt s ag k pa size m seq nt)) := Lib.hid (by
        have e : shE s ag k pa size 1 = 0 := by unfold shE; rw [hC0, if_neg (by simp), if_neg (by omega), if_neg hf]
        unfold shStore; rw [e, if_neg (by simp)])
      have HA := Lib.hid (And.intro hA (And.intro hin hi))
      have HC := Lib.hid (And.intro hC0 hf)
      have HG := Lib.hid hg
      obtain ⟨L, hL⟩ : ∃ L, L = bytesN size.toNat m := ⟨_, rfl⟩
      have HL : Hid (L = bytesN size.toNat m ∧ L.length = size.toNat ∧ size.toNat ≤ 8) := Lib.hid ⟨hL, by rw [hL]; exact bytesN_len _ _, by have := hA.sz; omega⟩
      have HK : Hid (bytesN (szK (kindC size)) m = L) := Lib.hid (by rw [(szK_kindC hA.sz).1, hL])
      have HOK : Hid (ShOk (shPush s (stEv ag k pa size m seq nt))) := Lib.hid (HS.out.ok.st0 hA (by omega))
      rw [HR.out, ← hg]
      clear hC0 hf hg h hA hin hi hL
      go_enter Try.func10, Try.ntmps10
      go_wp2_with fail
      refine (shcheck_at HG.out HS.out ag k pa size).mono ?_
      rintro e w' ⟨rfl, rfl⟩
      rw [HC.out.1]
      go_wp2_with fail
      refine (shfull_at HG.out HS.out).mono ?_
      rintro e w' ⟨rfl, rfl⟩
      rw [decide_eq_false HC.out.2]
      go_wp2_with fail
      refine (shkind_any _ size).mono ?_
      rintro e w5 ⟨rfl, rfl⟩
      go_wp2_with fail
      refine (ebytes_any _ (kindC size) m HM.out).mono ?_
      rintro e w1 ⟨vb, rfl, ob, x1, fb⟩
      rw [HK.out, List.length_map] at ob
      obtain ⟨la, lc, hvb, -⟩ := ob.sl.shape
      subst hvb
      have H1 := Lib.hid (And.intro ob (And.intro x1 fb))
      clear ob x1 fb
      go_wp2_with fail
      refine (shnote_at (v := ⟨.slice none 0 0, _, .slice none 0 0⟩) HG.out (HS.out.ext H1.out.2.1) (e := stEv ag k pa size m seq nt) ⟨Own.nil _ _ _, by show Own w1 _ 1 (.slice la L.length lc) (bytesN size.toNat m).length ((bytesN size.toNat m).map bv); rw [← HL.out.1]; exact H1.out.1, Own.nil _ _ _⟩ (fun q hq => fp_apart HS.out (by rcases hq with hq | hq | hq; cases hq; exact H1.out.2.2 q hq; cases hq)) HOK.out).mono ?_
      rintro e w2 P4
      obtain rfl := P4.1
      obtain ⟨hv', h2, m2, f2⟩ := P4.2
      obtain ⟨M2, F2⟩ := HS.out.note_fp (e := stEv ag k pa size m seq nt) (v := ⟨.slice none 0 0, .slice la L.length lc, .slice none 0 0⟩) H1.out.2.1 (fun q hq => (by rcases hq with hq | hq | hq; cases hq; exact H1.out.2.2 q hq; cases hq)) m2 f2
      have HP := Lib.hid (And.intro h2 (And.intro M2 F2))
      obtain ⟨B, -, (nn : ∀ w', (binOp .eql 63 z.qv (.slice none 0 0)).run Try.prog w' = .ok (.bool (!B)) w'), hB0, hB1⟩ := h2.qtest
      have HB := Lib.hid (And.intro hB0 hB1)
      have gd := run_guard_nil (P := Try.prog) z.qv
      have c2 : w2.cell? ⟨g, 2, none⟩ = some z.qv := (h2.at_cells HG.out).2.2.1
      clear h2 m2 f2 M2 F2 P4 hB0 hB1
      rcases (by cases seq <;> cases B <;> simp : seq = true ∨ (seq = false ∧ B = false) ∨ (seq = false ∧ B = true)) with rfl | ⟨rfl, rfl⟩ | ⟨rfl, rfl⟩
      case inr.inr =>
        have h0 := HB.out.2 rfl
        have hi2 : i < (shPush s (stEv ag k pa size m false nt)).n := HA.out.2.1
        have ix : ∀ w', (Instr.indexAt 63 z.qv (.int .i64 ag)).run Try.prog w' = .ok (.pointer (some (at_ z.qv i))) w' := by
          have h6 := (HP.out.1.qrow h0).sl.run_idx (P := Try.prog) IQS.und IQS.size .i64 i hi2
          rw [Nat.mul_one, ← HA.out.2.2] at h6
          exact h6
        have cq : w2.cell? (at_ z.qv i) = some (z.qs i) := HP.out.1.qcell h0 hi2
        have H0 := Lib.hid (And.intro h0 hi2)
        have c1 : w2.cell? ⟨g, 1, none⟩ = some z.m := (HP.out.1.at_cells HG.out).2.1
        have HQ : Hid (QueueAt w2 (z.qs i) s.room (quB (shPush s (stEv ag k pa size m false nt)) (i : Int)) (z.SQ i)) := Lib.hid (HP.out.1.qat h0 i hi2)
        obtain ⟨s2, hs2⟩ : ∃ s2, s2 = shPush s (stEv ag k pa size m false nt) := ⟨_, rfl⟩
        rw [← hs2] at HQ
        obtain ⟨n2, hn2⟩ : ∃ n, n = (quB s2 (i : Int)).length := ⟨_, rfl⟩
        have HS2 := Lib.hid (And.intro hs2 hn2)
        have HE : Hid (shSt s ag k pa size m false nt = shPut (shRoom s2 ag) ag ⟨k, pa, L, s.L.ev.length, !nt⟩) := Lib.hid (by unfold shSt; rw [if_neg (by have h7 := H0.out.1; intro h8; rcases h8 with h8 | h8; cases h8; have h9 : (shPush s (stEv ag k pa size m false nt)).room = s.room := rfl; omega), HL.out.1, hs2])
        clear h0 hi2 hs2 hn2
        go_wp2_with fail
        refine (qlen_any _ _ _ _ _ HQ.out).mono ?_
        rintro e w3 ⟨rfl, rfl⟩
        rw [← HS2.out.2]
        go_wp2_with fail
        refine (qroom_any _ _ _ _ _ HQ.out).mono ?_
        rintro e w3 ⟨rfl, rfl⟩
        go_upto_if 77 with fail
        go_cut [20] (fun s20 wx => s20 = z.qs i ∧ ShQ { z with hv := hv', V := evUpd z.V s.L.ev.length ⟨.slice none 0 0, .slice la L.length lc, .slice none 0 0⟩ } s2 (shRoom s2 ag) w2 wx)
        case first =>
          by_cases hr : s.room ≤ n2
          · have hr' : (s.room : Int) ≤ (n2 : Int) := by omega
            go_wp2_with fail
            refine (qflush_any _ _ _ _ _ _ HQ.out s.M z.U HP.out.1.blks (fun q hq => (HP.out.1.lq H0.out.1 i q H0.out.2 hq).2)).mono ?_
            rintro e w3 ⟨rfl, S1, q1, b1, m1, s1⟩
            have HX := Lib.hid (And.intro q1 (And.intro b1 (And.intro m1 s1)))
            have HRM := Lib.hid hr
            clear q1 b1 m1 s1 hr'
            go_wp2_with fail
            go_meet
            obtain ⟨q1, b1, m1, s1⟩ := HX.out
            have hp := HP.out.1
            have h0 := H0.out.1
            have hi2 := H0.out.2
            obtain ⟨hs2, hn2⟩ := HS2.out
            rw [← hs2] at hp h0 hi2
            refine ⟨rfl, ?_⟩
            have e5 : shRoom s2 ag = shFlush s2 (i : Int) := by unfold shRoom; rw [HA.out.2.2, ← hn2, if_pos (by rw [hs2]; exact HRM.out)]
            rw [e5]
            exact hp.setQ_q hi2 h0 (by rw [hs2] at q1 ⊢; exact q1) (by rw [hs2] at b1 ⊢; exact b1) m1 (fun q hq => .inl (s1 q hq)) (hp.ok.flush hi2)
          · have hr' : ¬ (s.room : Int) ≤ (n2 : Int) := by omega
            have HRM := Lib.hid hr
            go_wp2_with fail
            go_meet
            obtain ⟨hs2, hn2⟩ := HS2.out
            have hp := HP.out.1
            rw [← hs2] at hp
            refine ⟨rfl, ?_⟩
            have e5 : shRoom s2 ag = s2 := by unfold shRoom; rw [HA.out.2.2, ← hn2, if_neg (by rw [hs2]; exact HRM.out)]
            rw [e5]
            exact hp.q_refl (Mod.refl _ _)
        case rest =>
          obtain ⟨rfl, D⟩ := hcut
          obtain ⟨SQ', h3, e1, e2, e3, m3, f3⟩ := D
          have e4 : (shRoom s2 ag).L = (shPush s (stEv ag k pa size m false nt)).L := by rw [e3, HS2.out.1]
          obtain ⟨ho, hu⟩ := q_own (z := z) (hv' := hv') (SQ' := SQ') e4 h3
          have i3 : i < (shRoom s2 ag).n := by rw [e1, HS2.out.1]; exact H0.out.2
          have r3 : 0 < (shRoom s2 ag).room := by rw [e2, HS2.out.1]; exact H0.out.1
          have rr : (shRoom s2 ag).room = s.room := by rw [e2, HS2.out.1]; rfl
          have HD := Lib.hid (And.intro h3 (And.intro (ShQ.fp e1 e2 e3 m3 f3) (And.intro ho (And.intro i3 (And.intro r3 rr)))))
          clear h3 e1 e2 e3 m3 f3 ho hu i3 r3 e4 c2 nn gd ix cq c1 rr
          go_wp2_with fail
          refine (qput_any _ (z.qs i) (shRoom s2 ag).room (quB (shRoom s2 ag) (i : Int)) (SQ' i) (HD.out.1.qat HD.out.2.2.2.2.1 i HD.out.2.2.2.1) ⟨k, pa, L, s.L.ev.length, !nt⟩ _ (by have h5 : Sl _ (.slice la L.length lc) 1 (bytesN size.toNat m).length ((bytesN size.toNat m).map bv) := HD.out.2.2.1.wr.sl; rw [← HL.out.1] at h5; exact h5) ⟨(HA.out.1.rng HS.out.ok).2.1, i64_len HS.out.ok⟩).mono ?_
          rintro e w4 ⟨rfl, S1, q1, m1, s1⟩
          have HX := Lib.hid (And.intro q1 (And.intro m1 s1))
          clear q1 m1 s1
          go_wp2_with fail
          go_ret
          obtain ⟨q1, m1, s1⟩ := HX.out
          obtain ⟨h3, MF, ho, i3, r3, rr⟩ := HD.out
          have T4 := (h3.setQ_q i3 r3 q1 (h3.blks.mod m1 (fun q hu hq => (h3.lq r3 i q i3 hq).2 hu)) (m1.weak (fun q hq => .inl (.inl hq))) s1 (h3.ok.put i3 ⟨(HA.out.1.rng HS.out.ok).2.1, i64_len HS.out.ok⟩)).to
          refine ⟨rfl, ?_⟩
          show ShTo z s (shSt s ag k pa size m false nt) w w4
          rw [HE.out]
          have e9 : ∀ (a : Int) X, a = (i : Int) → shPut (shRoom s2 ag) a X = shPut (shRoom s2 ag) (i : Int) X := fun a X h => by rw [h]
          rw [e9 ag _ HA.out.2.2]
          exact ShTo.trans (z' := { z with hv := hv', V := evUpd z.V s.L.ev.length ⟨.slice none 0 0, .slice la L.length lc, .slice none 0 0⟩ }) (s' := s2) rfl HP.out.2.1 (by rw [HS2.out.1]; exact HP.out.2.2) (ShTo.trans (z' := { z with hv := hv', V := evUpd z.V s.L.ev.length ⟨.slice none 0 0, .slice la L.length lc, .slice none 0 0⟩, SQ := SQ' }) rfl MF.1 MF.2 T4)
      all_goals
        have HE : Hid (∀ sq, (sq = true ∨ s.room = 0) → shSt s ag k pa size m sq nt = shWrite (shDrain (shPush s (stEv ag k pa size m sq nt)) ag) k pa L s.L.ev.length) := Lib.hid (fun sq h => by unfold shSt; rw [if_pos h, HL.out.1])
        go_wp2_with fail
        refine (shdrain_qat HP.out.1 HG.out ⟨i, HA.out.2.2, HA.out.2.1⟩).mono ?_
        rintro e w3 ⟨rfl, D⟩
        obtain ⟨SQ', h3, e1, e2, e3, m3, f3⟩ := D
        obtain ⟨ho, hu⟩ := q_own (z := z) (hv' := hv') (SQ' := SQ') e3 h3
        have c1 : w3.cell? ⟨g, 1, none⟩ = some z.m := (h3.at_cells HG.out).2.1
        have HD := Lib.hid (And.intro h3 (And.intro (ShQ.fp e1 e2 e3 m3 f3) (And.intro ho hu)))
        clear h3 e1 e2 e3 m3 f3 ho hu c2 nn gd
        go_wp2_with fail
        refine (write_any _ _ _ _ HD.out.1.blks k pa _ L (by have h5 : Sl w3 (.slice la L.length lc) 1 (bytesN size.toNat m).length ((bytesN size.toNat m).map bv) := HD.out.2.2.1.wr.sl; rw [← HL.out.1] at h5; exact h5) (by have h6 := HL.out.2; omega) _ (i64_len HS.out.ok)).mono ?_
        rintro e w4 ⟨rfl, b4, m4⟩
        have T4 := Lib.hid (HD.out.1.setM_to b4 m4 (fun k hk => .inl hk) (HD.out.1.ok.write k pa L (i64_len HS.out.ok)))
        clear b4 m4 c1
        go_wp2_with fail
        go_ret
        refine ⟨rfl, ?_⟩
        first
          | rw [HE.out true (.inl rfl)]
          | rw [HE.out false (.inr (HB.out.1 (by first | rfl | trivial)))]
        exact ShTo.trans (z' := { z with hv := hv', V := evUpd z.V s.L.ev.length ⟨.slice none 0 0, .slice la L.length lc, .slice none 0 0⟩ }) rfl HP.out.2.1 HP.out.2.2 (ShTo.trans (z' := { z with hv := hv', V := evUpd z.V s.L.ev.length ⟨.slice none 0 0, .slice la L.length lc, .slice none 0 0⟩, SQ := SQ' }) rfl HD.out.2.1.1 HD.out.2.1.2 T4.out)
end Go.Proofs.Ytbhocahmhmafmaa
