/-
  The contracts of (*shared.Shared).Change and Swap. No condition.
-/
import Derived.Test.YtbhocahmhmafmaaMShWhole
namespace Go.Ren
set_option linter.unusedVariables false
theorem changeK_ok {k : Int} (hk : szK k ≠ 0) (o : Int) (a b : Nat) : (changeK k o a b).2 = decide (1 ≤ o ∧ o ≤ 6) := by
  unfold changeK
  rw [if_neg hk]
  split
  · rename_i h; subst h; rfl
  split
  · rename_i h; subst h; rfl
  split
  · rename_i h; subst h; rfl
  split
  · rename_i h; subst h; rfl
  split
  · rename_i h; subst h; rfl
  split
  · rename_i h; subst h; rfl
  · symm; rw [decide_eq_false_iff_not]; omega
theorem cutK_lt (k : Int) (m : Nat) : cutK k m < 18446744073709551616 := by
  unfold cutK
  have h := szK_five k
  have h2 : 0 < 2 ^ (8 * szK k) := Nat.two_pow_pos _
  have h1 := Nat.mod_lt m h2
  rcases h with h | h | h | h | h <;> rw [h] at h1 ⊢ <;> simp at h1 ⊢ <;> omega
theorem changeK_lt (k o : Int) (a b : Nat) : (changeK k o a b).1 < 18446744073709551616 := by
  unfold changeK
  split
  · decide
  split
  · exact cutK_lt _ _
  split
  · exact cutK_lt _ _
  split
  · exact cutK_lt _ _
  split
  · exact cutK_lt _ _
  split
  · exact cutK_lt _ _
  split
  · exact cutK_lt _ _
  · decide
theorem wordN_64 {l : List UInt8} (h : l.length ≤ 8) : wordN l < 18446744073709551616 := by
  have h1 := wordN_lt l
  have h2 : (2 : Nat) ^ (8 * l.length) ≤ 2 ^ 64 := Nat.pow_le_pow_right (by decide) (by omega)
  have h3 : (2 : Nat) ^ 64 = 18446744073709551616 := by decide
  omega
end Go.Ren
namespace Go.Proofs.Ytbhocahmhmafmaa
open Go.Ren Go.RowKit
set_option linter.unusedVariables false
/-- What the drained memory reads. -/
theorem drained_ok {s : Shm} (hk : ShOk s) {ag k pa size : Int} (hA : Asked s ag k pa size) : ShOk (shDrain s ag) ∧ Asked (shDrain s ag) ag k pa size ∧ (breadB (shDrain s ag).M k pa size).length = size.toNat ∧ size.toNat ≤ 8 := by
  have h2 := hk.seq_ (seq := true) hA
  have h3 := (bread_len20 h2.1.bk (k := k) (a := pa) (n := size)).2.2 h2.2.chk
  exact ⟨h2.1, h2.2, h3, by have := hA.sz; omega⟩
set_option maxRecDepth 100000 in
set_option maxHeartbeats 1600000 in
theorem shchange_any (w : World) (z : ShV) (s : Shm) (h : ShIn w z s) (ag k pa size op : Int) (m : Nat) (hm : m < 18446744073709551616) :
    Calls Try.prog 49 #[ptr z.g, .int .i64 ag, .int .i64 k, .int .i64 pa, .int .i64 size, .int .i64 op, .int .u64 (m : Int)] w (ActPost z s (shChange s ag k pa size op m) w) := by
  have HS := Lib.hid h
  have HM := Lib.hid hm
  obtain ⟨C, hC⟩ : ∃ C, C = shC s ag k pa size := ⟨_, rfl⟩
  obtain ⟨g, hg⟩ : ∃ g, g = z.g := ⟨_, rfl⟩
  rw [← hg]
  have HG := Lib.hid hg
  clear hg hm
  by_cases hc : C = 0
  case neg =>
    have HR : Hid (shChange s ag k pa size op m = ((0, C), s)) := Lib.hid (by
      have e : shE s ag k pa size op = C := by unfold shE; rw [← hC, if_pos hc]
      unfold shChange; rw [e, if_pos hc])
    have hb : (C != 0) = true := by simpa using hc
    have HC := Lib.hid hC
    rw [HR.out]
    clear hc hC h
    go_enter Try.func49, Try.ntmps49
    go_wp2_with fail
    refine (shcheck_at HG.out HS.out ag k pa size).mono ?_
    rintro e w' ⟨rfl, rfl⟩
    rw [← HC.out]
    go_wp2_with fail
    go_ret2
    exact ⟨rfl, HS.out.to (Mod.refl _ _)⟩
  case pos =>
    have hC0 : shC s ag k pa size = 0 := by rw [← hC]; exact hc
    clear hC hc C
    have hA := shC_0 hC0
    have HKO : Hid (∀ a b, (changeK (kindC size) op a b).2 = decide (1 ≤ op ∧ op ≤ 6)) := Lib.hid fun a b => changeK_ok (szK_kindC hA.sz).2 op a b
    by_cases ho : 1 ≤ op ∧ op ≤ 6
    case neg =>
      have HR : Hid (shChange s ag k pa size op m = ((0, 8), s)) := Lib.hid (by
        have e : shE s ag k pa size op = 8 := by unfold shE; rw [hC0, if_neg (by simp), if_pos (by omega)]
        unfold shChange; rw [e, if_pos (by omega)])
      have HC := Lib.hid (And.intro hC0 ho)
      rw [HR.out]
      clear hC0 ho h hA
      go_enter Try.func49, Try.ntmps49
      go_wp2_with fail
      refine (shcheck_at HG.out HS.out ag k pa size).mono ?_
      rintro e w' ⟨rfl, rfl⟩
      rw [HC.out.1]
      go_wp2_with fail
      refine (shkind_any _ size).mono ?_
      rintro e w5 ⟨rfl, rfl⟩
      go_wp2_with fail
      refine (change_any _ (kindC size) op 0 0 (by decide) (by decide)).mono ?_
      rintro e w5 ⟨rfl, rfl⟩
      rw [HKO.out, decide_eq_false HC.out.2]
      go_wp2_with fail
      go_ret2
      exact ⟨rfl, HS.out.to (Mod.refl _ _)⟩
    case pos =>
      by_cases hf : 1000 ≤ s.L.ev.length
      · have HR : Hid (shChange s ag k pa size op m = ((0, 11), s)) := Lib.hid (by
          have e : shE s ag k pa size op = 11 := by unfold shE; rw [hC0, if_neg (by simp), if_neg (by omega), if_pos hf]
          unfold shChange; rw [e, if_pos (by omega)])
        have HC := Lib.hid (And.intro hC0 (And.intro ho hf))
        rw [HR.out]
        clear hC0 ho hf h hA
        go_enter Try.func49, Try.ntmps49
        go_wp2_with fail
        refine (shcheck_at HG.out HS.out ag k pa size).mono ?_
        rintro e w' ⟨rfl, rfl⟩
        rw [HC.out.1]
        go_wp2_with fail
        refine (shkind_any _ size).mono ?_
        rintro e w5 ⟨rfl, rfl⟩
        go_wp2_with fail
        refine (change_any _ (kindC size) op 0 0 (by decide) (by decide)).mono ?_
        rintro e w5 ⟨rfl, rfl⟩
        rw [HKO.out, decide_eq_true HC.out.2.1]
        go_wp2_with fail
        refine (shfull_at HG.out HS.out).mono ?_
        rintro e w' ⟨rfl, rfl⟩
        rw [decide_eq_true HC.out.2.2]
        go_wp2_with fail
        go_ret2
        exact ⟨rfl, HS.out.to (Mod.refl _ _)⟩
      · obtain ⟨X, hX⟩ : ∃ X, X = shOld s ag k pa size := ⟨_, rfl⟩
        have HR : Hid (shChange s ag k pa size op m = ((X, 0), shWhole (shDrain s ag) ag k pa size (changeK (kindC size) op X m).1 true)) := Lib.hid (by
          have e : shE s ag k pa size op = 0 := by unfold shE; rw [hC0, if_neg (by simp), if_neg (by omega), if_neg hf]
          unfold shChange; rw [e, if_neg (by simp), hX])
        have HC := Lib.hid (And.intro hC0 (And.intro ho hf))
        have HA := Lib.hid (And.intro hA (drained_ok h.ok hA))
        have HW : Hid (wordK (kindC size) (breadB (shDrain s ag).M k pa size) = (X, true)) := Lib.hid (by rw [hX]; exact wordK_eq hA.sz (drained_ok h.ok hA).2.2.1)
        have HX : Hid (X < 18446744073709551616) := Lib.hid (by rw [hX]; exact wordN_64 (by have h3 := drained_ok h.ok hA; omega))
        rw [HR.out]
        clear hC0 ho hf h hA hX
        go_enter Try.func49, Try.ntmps49
        go_wp2_with fail
        refine (shcheck_at HG.out HS.out ag k pa size).mono ?_
        rintro e w' ⟨rfl, rfl⟩
        rw [HC.out.1]
        go_wp2_with fail
        refine (shkind_any _ size).mono ?_
        rintro e w5 ⟨rfl, rfl⟩
        go_wp2_with fail
        refine (change_any _ (kindC size) op 0 0 (by decide) (by decide)).mono ?_
        rintro e w5 ⟨rfl, rfl⟩
        rw [HKO.out, decide_eq_true HC.out.2.1]
        go_wp2_with fail
        refine (shfull_at HG.out HS.out).mono ?_
        rintro e w' ⟨rfl, rfl⟩
        rw [decide_eq_false HC.out.2.2]
        go_wp2_with fail
        refine (shdrain_at HG.out HS.out HA.out.1.ag).mono ?_
        rintro e w1 ⟨rfl, P1⟩
        obtain ⟨z1, e1, h1, m1, f1⟩ := P1.at_ HG.out
        have c1 := (h1.at_cells e1).2.1
        have H1 := Lib.hid (And.intro e1 (And.intro h1 (And.intro m1 f1)))
        clear P1 e1 h1 m1 f1
        go_wp2_with fail
        refine (read_any _ _ _ _ H1.out.2.1.blks k pa size).mono ?_
        rintro e w2 ⟨v, u, rfl, ov, ou, x2, fv, fu⟩
        have HV := Lib.hid (And.intro ov (And.intro ou (And.intro x2 (And.intro fv fu))))
        clear ov ou x2 fv fu c1
        go_wp2_with fail
        refine (shkind_any _ size).mono ?_
        rintro e w5 ⟨rfl, rfl⟩
        go_wp2_with fail
        refine (eword_any _ (kindC size) v _ HV.out.1.sl).mono ?_
        rintro e w5 ⟨rfl, rfl⟩
        rw [HW.out]
        go_wp2_with fail
        refine (shkind_any _ size).mono ?_
        rintro e w5 ⟨rfl, rfl⟩
        go_wp2_with fail
        refine (change_any _ (kindC size) op X m HX.out HM.out).mono ?_
        rintro e w5 ⟨rfl, rfl⟩
        go_wp2_with fail
        refine (shwhole_any _ _ z1 _ H1.out.2.1 HV.out.2.2.1 H1.out.1 ag k pa size HA.out.2.2.1 (by have h9 := HC.out.2.2; show s.L.ev.length < 1000; omega) (changeK (kindC size) op X m).1 (changeK_lt _ _ _ _) true v u HV.out.1 HV.out.2.1 HV.out.2.2.2.1 HV.out.2.2.2.2).mono ?_
        rintro e w6 ⟨rfl, P6⟩
        have HP := Lib.hid P6
        clear P6
        go_wp2_with fail
        go_ret2
        exact ⟨rfl, ShTo.then HG.out H1.out.1 H1.out.2.2.1 H1.out.2.2.2 HP.out⟩
end Go.Proofs.Ytbhocahmhmafmaa
