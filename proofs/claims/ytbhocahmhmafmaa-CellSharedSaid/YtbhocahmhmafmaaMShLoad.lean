/-
  The contract of (*shared.Shared).Load. No condition.
-/
import Derived.Test.YtbhocahmhmafmaaMShNote
namespace Go.Proofs.Ytbhocahmhmafmaa
open Go.Ren Go.RowKit
set_option linter.unusedVariables false
/-- An answer, an error, a memory. -/
def ActPost (z : ShV) (s : Shm) (r : (Nat × Int) × Shm) (w : World) (e : Ending) (w' : World) : Prop := e = .returned (.tuple #[.int .u64 (r.1.1 : Int), .int .i64 r.1.2]) ∧ ShTo z s r.2 w w'
/-- What is read. -/
structure LoadMid (s : Shm) (ag k at_ size : Int) (w0 w : World) (v u : Value) : Prop where
  b : Own w 5 1 v (ldB s ag k at_ size).length ((ldB s ag k at_ size).map bv)
  y : Own w 3 1 u (ldY s ag k at_ size).length ((ldY s ag k at_ size).map iv)
  x : Ext w0 w
  fb : ∀ q, v.ownBlock = some q → w0.heap.size ≤ q
  fy : ∀ q, u.ownBlock = some q → w0.heap.size ≤ q
theorem over_flat {s : Shm} {ag k at_ size : Int} (h : quB s ag = []) : ldB s ag k at_ size = breadB s.M k at_ size ∧ ldY s ag k at_ size = breadY s.M k at_ size := by
  unfold ldB ldY
  rw [h]
  unfold qoverB qoverY
  constructor <;> split <;> rfl
set_option maxRecDepth 100000 in
set_option maxHeartbeats 1600000 in
theorem shload_any (w : World) (z : ShV) (s : Shm) (h : ShIn w z s) (ag k at_ size : Int) (seq nt : Bool) :
    Calls Try.prog 11 #[ptr z.g, .int .i64 ag, .int .i64 k, .int .i64 at_, .int .i64 size, .bool seq, .bool nt] w (ActPost z s (shLoad s ag k at_ size seq nt) w) := by
  have HS := Lib.hid h
  obtain ⟨C, hC⟩ : ∃ C, C = shC s ag k at_ size := ⟨_, rfl⟩
  obtain ⟨g, hg⟩ : ∃ g, g = z.g := ⟨_, rfl⟩
  by_cases hc : C = 0
  case neg =>
    have HR : Hid (shLoad s ag k at_ size seq nt = ((0, C), s)) := Lib.hid (by
      have e : shE s ag k at_ size 1 = C := by unfold shE; rw [← hC, if_pos hc]
      unfold shLoad; rw [e, if_pos hc])
    have hb : (C != 0) = true := by simpa using hc
    have HC := Lib.hid hC
    have HG := Lib.hid hg
    rw [HR.out, ← hg]
    clear hc hC hg h
    go_enter Try.func11, Try.ntmps11
    go_wp2_with fail
    refine (shcheck_at HG.out HS.out ag k at_ size).mono ?_
    rintro e w' ⟨rfl, rfl⟩
    rw [← HC.out]
    go_wp2_with fail
    go_ret2
    exact ⟨rfl, HS.out.to (Mod.refl _ _)⟩
  case pos =>
    have hC0 : shC s ag k at_ size = 0 := by rw [← hC]; exact hc
    clear hC hc C
    by_cases hf : 1000 ≤ s.L.ev.length
    · have HR : Hid (shLoad s ag k at_ size seq nt = ((0, 11), s)) := Lib.hid (by
        have e : shE s ag k at_ size 1 = 11 := by unfold shE; rw [hC0, if_neg (by simp), if_neg (by omega), if_pos hf]
        unfold shLoad; rw [e, if_pos (by omega)])
      have HC := Lib.hid (And.intro hC0 hf)
      have HG := Lib.hid hg
      rw [HR.out, ← hg]
      clear hC0 hf hg h
      go_enter Try.func11, Try.ntmps11
      go_wp2_with fail
      refine (shcheck_at HG.out HS.out ag k at_ size).mono ?_
      rintro e w' ⟨rfl, rfl⟩
      rw [HC.out.1]
      go_wp2_with fail
      refine (shfull_at HG.out HS.out).mono ?_
      rintro e w' ⟨rfl, rfl⟩
      rw [decide_eq_true HC.out.2]
      go_wp2_with fail
      go_ret2
      exact ⟨rfl, HS.out.to (Mod.refl _ _)⟩
    · have hA := shC_0 hC0
      obtain ⟨i, hi, hin⟩ := hA.ag
      have HR : Hid (shLoad s ag k at_ size seq nt = ((wordN (ldB (shSeq s ag seq) ag k at_ size), 0), shLd (shSeq s ag seq) ag k at_ size seq nt)) := Lib.hid (by
        have e : shE s ag k at_ size 1 = 0 := by unfold shE; rw [hC0, if_neg (by simp), if_neg (by omega), if_neg hf]
        unfold shLoad; rw [e, if_neg (by simp)])
      have HA := Lib.hid (And.intro hA (And.intro hin hi))
      have HC := Lib.hid (And.intro hC0 hf)
      have HG := Lib.hid hg
      rw [HR.out, ← hg]
      clear hC0 hf hg h hA hin hi
      -- the walk to the read
      obtain ⟨s1, hs1⟩ : ∃ s1, s1 = shSeq s ag seq := ⟨_, rfl⟩
      have HS1 := Lib.hid hs1
      rw [← hs1]
      clear hs1
      go_enter Try.func11, Try.ntmps11
      go_wp2_with fail
      refine (shcheck_at HG.out HS.out ag k at_ size).mono ?_
      rintro e w' ⟨rfl, rfl⟩
      rw [HC.out.1]
      go_wp2_with fail
      refine (shfull_at HG.out HS.out).mono ?_
      rintro e w' ⟨rfl, rfl⟩
      rw [decide_eq_false HC.out.2]
      go_upto_if 33 with fail
      go_cut [15] (fun s15 wx => s15 = .int .i64 0 ∧ ShTo z s s1 w wx)
      case first =>
        cases seq with
        | false =>
          go_wp2_with fail
          go_meet
          exact ⟨rfl, by rw [HS1.out]; exact HS.out.to (Mod.refl _ _)⟩
        | true =>
          go_wp2_with fail
          refine (shdrain_at HG.out HS.out ⟨i, HA.out.2.2, HA.out.2.1⟩).mono ?_
          rintro e w1 ⟨rfl, P⟩
          have HP := Lib.hid P
          clear P
          go_wp2_with fail
          go_meet
          exact ⟨rfl, by rw [HS1.out]; exact HP.out⟩
      case rest =>
        obtain ⟨rfl, P1⟩ := hcut
        obtain ⟨z1, e1, h1, m1, f1⟩ := P1.at_ HG.out
        have c1 := (h1.at_cells e1).2.1
        have H1 := Lib.hid (And.intro e1 (And.intro h1 (And.intro m1 f1)))
        clear P1 e1 h1 m1 f1
        go_wp2_with fail
        refine (read_any _ _ _ _ H1.out.2.1.blks k at_ size).mono ?_
        rintro e w2 ⟨v, u, rfl, ov, ou, x2, fv, fu⟩
        have HV := Lib.hid (And.intro ov (And.intro ou (And.intro x2 (And.intro fv fu))))
        have HK1 : Hid (ShOk s1 ∧ Asked s1 ag k at_ size ∧ s1.L = s.L ∧ s1.n = s.n) := Lib.hid (by
          rw [HS1.out]
          have h2 := HS.out.ok.seq_ (seq := seq) HA.out.1
          exact ⟨h2.1, h2.2, shSeq_L _ _ _, by unfold shSeq; split <;> rfl⟩)
        have h2 := H1.out.2.1.ext x2
        have H2 := Lib.hid h2
        have c2 := (h2.at_cells H1.out.1).2.2.1
        clear ov ou x2 fv fu h2 c1
        obtain ⟨B, nn, -, hB0, hB1⟩ := H2.out.qtest
        have HB := Lib.hid (And.intro hB0 hB1)
        have gd := run_guard_nil (P := Try.prog) z1.qv
        clear hB0 hB1
        go_upto_if 53 with fail
        go_cut [17, 18] (fun s17 s18 wx => ∃ v' u', v' = s17 ∧ u' = s18 ∧ LoadMid s1 ag k at_ size wc wx v' u')
        case first =>
          cases B with
          | false =>
            have h0 := HB.out.1 rfl
            have HQ : Hid (quB s1 ag = []) := Lib.hid (by rw [HA.out.2.2]; exact flat_q HK1.out.1 h0 i (by have := HA.out.2.1; have := HK1.out.2.2.2; omega))
            clear h0
            go_wp2_with fail
            go_meet
            obtain ⟨ov, ou, x2, fv, fu⟩ := HV.out
            obtain ⟨e3, e4⟩ := over_flat (s := s1) (k := k) (at_ := at_) (size := size) HQ.out
            exact ⟨v, u, rfl, rfl, by rw [e3]; exact ov, by rw [e4]; exact ou, x2, fv, fu⟩
          | true =>
            have h0 := HB.out.2 rfl
            have hi2 : i < s1.n := by have := HA.out.2.1; have := HK1.out.2.2.2; omega
            have ix := (H2.out.qrow h0).sl.run_idx (P := Try.prog) IQS.und IQS.size .i64 i hi2
            rw [Nat.mul_one, ← HA.out.2.2] at ix
            have cq := H2.out.qcell h0 hi2
            have HQ : Hid (QueueAt w2 (z1.qs i) s1.room (quB s1 ag) (z1.SQ i)) := Lib.hid (by rw [HA.out.2.2]; exact H2.out.qat h0 i hi2)
            clear h0 hi2
            go_wp2_with fail
            refine (qover_any _ _ _ _ _ HQ.out k at_ (HK1.out.2.1.rng HK1.out.1).2.2.1 v u _ _ HV.out.1.sl ⟨HV.out.2.1.sl, breadY_i HK1.out.1.bk⟩ (by have h1 := bread_len20 HK1.out.1.bk (k := k) (a := at_) (n := size); have h2 := HK1.out.2.1.sz; omega) (by have h1 := bread_len20 HK1.out.1.bk (k := k) (a := at_) (n := size); have h2 := HK1.out.2.1.sz; omega)).mono ?_
            rintro e w3 ⟨v', u', rfl, ov', ou', x3, fv', fu'⟩
            have HO := Lib.hid (And.intro ov' (And.intro ou' (And.intro x3 (And.intro fv' fu'))))
            clear ov' ou' x3 fv' fu' c2 cq ix
            go_wp2_with fail
            go_meet
            obtain ⟨ov', ou', x3, fv', fu'⟩ := HO.out
            have x2 := HV.out.2.2.1
            exact ⟨v', u', rfl, rfl, ov', ou', x2.trans x3, fun q hq => Nat.le_trans x2.size (fv' q hq), fun q hq => Nat.le_trans x2.size (fu' q hq)⟩
        case rest =>
          obtain ⟨v', u', rfl, rfl, M⟩ := hcut
          have HM := Lib.hid M
          have H3 := Lib.hid (H1.out.2.1.ext M.x)
          have HF := Lib.hid (ld_facts HK1.out.1 HK1.out.2.1)
          have HW : Hid (wordK (kindC size) (ldB s1 ag k at_ size) = (wordN (ldB s1 ag k at_ size), true)) := Lib.hid (wordK_eq HK1.out.2.1.sz HF.out.1)
          have HOK : Hid (ShOk (shLd s1 ag k at_ size seq nt)) := Lib.hid (HK1.out.1.ld HK1.out.2.1 (by have h1 := HK1.out.2.2.1; have h2 := HC.out.2; rw [h1]; omega))
          obtain ⟨la1, lc1, hv1, -⟩ := M.b.sl.shape
          obtain ⟨la2, lc2, hv2, -⟩ := M.y.sl.shape
          clear M c2 nn gd
          subst hv1 hv2
          go_wp2_with fail
          refine (shnote_at (v := ⟨_, .slice none 0 0, _⟩) H1.out.1 H3.out (e := ⟨ag, 1, seq, nt, k, at_, size, ldB s1 ag k at_ size, [], ldY s1 ag k at_ size⟩) ⟨HM.out.b, Own.nil _ _ _, HM.out.y⟩ (fun q hq => fp_apart H1.out.2.1 (by rcases hq with hq | hq | hq; exact HM.out.fb q hq; cases hq; exact HM.out.fy q hq)) HOK.out).mono ?_
          rintro e w4 P4
          obtain rfl := P4.1
          have HP4 := Lib.hid P4
          clear P4
          go_wp2_with fail
          refine (shkind_any _ size).mono ?_
          rintro e w5 ⟨rfl, rfl⟩
          go_wp2_with fail
          refine (eword_any _ (kindC size) _ (ldB s1 ag k at_ size) (note_own HP4.out).rd.sl).mono ?_
          rintro e w5 ⟨rfl, rfl⟩
          rw [HW.out]
          go_wp2_with fail
          go_ret2
          exact ⟨rfl, (ShTo.then HG.out H1.out.1 H1.out.2.2.1 H1.out.2.2.2 (H1.out.2.1.note_to HM.out.x (fun q hq => by rcases hq with hq | hq | hq; exact HM.out.fb q hq; cases hq; exact HM.out.fy q hq) HP4.out))⟩
end Go.Proofs.Ytbhocahmhmafmaa
