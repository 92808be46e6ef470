/-
  The contract of (*shared.Shared).Swap. No condition.
-/
import Derived.Test.YtbhocahmhmafmaaMShChange
import Derived.Test.YtbhocahmhmafmaaMBaseA
namespace Go.Proofs.Ytbhocahmhmafmaa
open Go.Ren Go.RowKit
set_option linter.unusedVariables false
set_option maxRecDepth 100000 in
set_option maxHeartbeats 1600000 in
theorem shswap_any (w : World) (z : ShV) (s : Shm) (h : ShIn w z s) (ag k pa size : Int) (want m : Nat) (hw : want < 18446744073709551616) (hm : m < 18446744073709551616) :
    Calls Try.prog 50 #[ptr z.g, .int .i64 ag, .int .i64 k, .int .i64 pa, .int .i64 size, .int .u64 (want : Int), .int .u64 (m : Int)] w (ActPost z s (shSwap s ag k pa size want m) w) := by
  have HS := Lib.hid h
  have HM := Lib.hid (And.intro hw hm)
  obtain ⟨C, hC⟩ : ∃ C, C = shC s ag k pa size := ⟨_, rfl⟩
  obtain ⟨g, hg⟩ : ∃ g, g = z.g := ⟨_, rfl⟩
  rw [← hg]
  have HG := Lib.hid hg
  clear hg hm hw
  by_cases hc : C = 0
  case neg =>
    have HR : Hid (shSwap s ag k pa size want m = ((0, C), s)) := Lib.hid (by
      have e : shE s ag k pa size 1 = C := by unfold shE; rw [← hC, if_pos hc]
      unfold shSwap; rw [e, if_pos hc])
    have hb : (C != 0) = true := by simpa using hc
    have HC := Lib.hid hC
    rw [HR.out]
    clear hc hC h
    go_enter Try.func50, Try.ntmps50
    go_wp2_with fail
    refine (shcheck_at HG.out HS.out ag k pa size).mono ?_
    rintro e w' ⟨rfl, rfl⟩
    rw [← HC.out]
    go_wp2_with fail
    go_ret2
    exact ⟨rfl, HS.out.to (Mod.refl _ _)⟩
  case pos =>
    have hC0 : shC s ag k pa size = 0 := by rw [← hC]; exact hc
    clear hC hc C
    have hA := shC_0 hC0
    have ho : True := trivial
    by_cases hf : 1000 ≤ s.L.ev.length
    · have HR : Hid (shSwap s ag k pa size want m = ((0, 11), s)) := Lib.hid (by
        have e : shE s ag k pa size 1 = 11 := by unfold shE; rw [hC0, if_neg (by simp), if_neg (by omega), if_pos hf]
        unfold shSwap; rw [e, if_pos (by omega)])
      have HC := Lib.hid (And.intro hC0 (And.intro ho hf))
      rw [HR.out]
      clear hC0 ho hf h hA
      go_enter Try.func50, Try.ntmps50
      go_wp2_with fail
      refine (shcheck_at HG.out HS.out ag k pa size).mono ?_
      rintro e w' ⟨rfl, rfl⟩
      rw [HC.out.1]
      go_wp2_with fail
      refine (shfull_at HG.out HS.out).mono ?_
      rintro e w' ⟨rfl, rfl⟩
      rw [decide_eq_true HC.out.2.2]
      go_wp2_with fail
      go_ret2
      exact ⟨rfl, HS.out.to (Mod.refl _ _)⟩
    · obtain ⟨X, hX⟩ : ∃ X, X = shOld s ag k pa size := ⟨_, rfl⟩
      have HR : Hid (shSwap s ag k pa size want m = ((X, 0), shWhole (shDrain s ag) ag k pa size m (breadB (shDrain s ag).M k pa size == bytesN size.toNat want))) := Lib.hid (by
        have e : shE s ag k pa size 1 = 0 := by unfold shE; rw [hC0, if_neg (by simp), if_neg (by omega), if_neg hf]
        unfold shSwap; rw [e, if_neg (by simp), hX])
      have HC := Lib.hid (And.intro hC0 (And.intro ho hf))
      have HA := Lib.hid (And.intro hA (drained_ok h.ok hA))
      have HW : Hid (wordK (kindC size) (breadB (shDrain s ag).M k pa size) = (X, true)) := Lib.hid (by rw [hX]; exact wordK_eq hA.sz (drained_ok h.ok hA).2.2.1)
      have HKB : Hid (bytesN (szK (kindC size)) want = bytesN size.toNat want) := Lib.hid (by rw [(szK_kindC hA.sz).1])
      have HX : Hid (X < 18446744073709551616) := Lib.hid (by rw [hX]; exact wordN_64 (by have h3 := drained_ok h.ok hA; omega))
      rw [HR.out]
      clear hC0 ho hf h hA hX
      go_enter Try.func50, Try.ntmps50
      go_wp2_with fail
      refine (shcheck_at HG.out HS.out ag k pa size).mono ?_
      rintro e w' ⟨rfl, rfl⟩
      rw [HC.out.1]
      go_wp2_with fail
      refine (shfull_at HG.out HS.out).mono ?_
      rintro e w' ⟨rfl, rfl⟩
      rw [decide_eq_false HC.out.2.2]
      go_wp2_with fail
      refine (shdrain_at HG.out HS.out HA.out.1.ag).mono ?_
      rintro e w1 ⟨rfl, P1⟩
      obtain ⟨z1, e1, h1, m1, f1⟩ := P1.at_ HG.out
      have c1 := (h1.at_cells e1).2.1
      have H1 := Lib.hid (And.intro e1 (And.intro h1 (And.intro m1 f1)))
      clear P1 e1 h1 m1 f1
      go_wp2_with fail
      refine (read_any _ _ _ _ H1.out.2.1.blks k pa size).mono ?_
      rintro e w2 ⟨v, u, rfl, ov, ou, x2, fv, fu⟩
      have HV := Lib.hid (And.intro ov (And.intro ou (And.intro x2 (And.intro fv fu))))
      clear ov ou x2 fv fu c1
      go_wp2_with fail
      refine (shkind_any _ size).mono ?_
      rintro e w5 ⟨rfl, rfl⟩
      go_wp2_with fail
      refine (eword_any _ (kindC size) v _ HV.out.1.sl).mono ?_
      rintro e w5 ⟨rfl, rfl⟩
      rw [HW.out]
      go_wp2_with fail
      go_upto_region 9 with fail
      go_wp2_with fail
      refine (shkind_any _ size).mono ?_
      rintro e w5 ⟨rfl, rfl⟩
      go_wp2_with fail
      refine (ebytes_any _ (kindC size) want HM.out.1).mono ?_
      rintro e w3 ⟨vb, rfl, ob, x3, fb⟩
      rw [HKB.out, List.length_map] at ob
      have HB3 := Lib.hid (And.intro ob x3)
      clear ob x3 fb
      go_wp2_with fail
      refine (bsequal_any _ v vb _ _ ((BytesAt.ext HV.out.1.sl HB3.out.2)) HB3.out.1.sl).mono ?_
      rintro e w4 ⟨rfl, x4⟩
      have H4 := Lib.hid (HB3.out.2.trans x4)
      clear x4
      go_wp2_with fail
      refine (shwhole_any _ _ z1 _ H1.out.2.1 (HV.out.2.2.1.trans H4.out) H1.out.1 ag k pa size HA.out.2.2.1 (by have h9 := HC.out.2.2; show s.L.ev.length < 1000; omega) m HM.out.2 _ v u (HV.out.1.ext H4.out) (HV.out.2.1.ext H4.out) HV.out.2.2.2.1 HV.out.2.2.2.2).mono ?_
      rintro e w6 ⟨rfl, P6⟩
      have HP := Lib.hid P6
      clear P6
      go_wp2_with fail
      go_ret2
      exact ⟨rfl, ShTo.then HG.out H1.out.1 H1.out.2.2.1 H1.out.2.2.2 HP.out⟩
end Go.Proofs.Ytbhocahmhmafmaa
