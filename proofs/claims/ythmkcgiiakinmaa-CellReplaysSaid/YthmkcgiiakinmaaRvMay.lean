/-
  The contract of renref14.May. No condition.
-/
import Derived.Test.YthmkcgiiakinmaaRvRead
import Derived.Test.YthmkcgiiakinmaaEvMay
namespace Go.Proofs.Ythmkcgiiakinmaa
open Go.Ren Go.RowKit
set_option linter.unusedVariables false
/-- The document's log in its own block. -/
structure RLogBox (w : World) (g : Nat) (ve vp : Value) : Prop where
  b : w.heap[g]? = some (.cells #[ve, vp] 30 (0, 0))
theorem RLogBox.ext {w w' : World} {g : Nat} {ve vp : Value} (h : RLogBox w g ve vp) (x : Ext w w') : RLogBox w' g ve vp := ⟨x.blk h.b⟩
theorem RLogBox.cells {w : World} {g : Nat} {ve vp : Value} (h : RLogBox w g ve vp) : w.cell? ⟨g, 0, none⟩ = some ve ∧ w.cell? ⟨g, 1, none⟩ = some vp := by simp [World.cell?, h.b]
/-- Every list of every event is short. -/
def SmL (L : Lg) : Prop := ∀ i, i < L.ev.length → (evn L.ev i).rd.length ≤ 20000 ∧ (evn L.ev i).wr.length ≤ 20000 ∧ (evn L.ev i).fr.length ≤ 20000
set_option maxRecDepth 100000 in
set_option maxHeartbeats 1600000 in
theorem rmay_any (w : World) (ve vp : Value) (V : Nat → Vs) (L : Lg) (h : LogIn w ve vp V L) (hsm : SmL L) :
    Calls Try.prog 58 #[.agg #[ve, vp]] w (FPost (mayL L) w) := by
  have HSM := Lib.hid hsm
  clear hsm
  have q1 := Sl.cells_eq h.row
  have q2 := Sl.cells_eq h.prow
  have s1 := Sl.run_st (P := Try.prog) h.row
  have s2 := Sl.run_st (P := Try.prog) h.prow
  have l1 := h.row.run_len (P := Try.prog) IRe.und 3
  have l2 := h.prow.run_len (P := Try.prog) IP.und 3
  have HI := Lib.hid (h.row.run_idx (P := Try.prog) IRe.und IRe.size .i64)
  have HJ := Lib.hid (h.prow.run_idx (P := Try.prog) IP.und IP.size .i64)
  obtain ⟨w0, hw0⟩ : ∃ w0, w0 = w.alloc (.cells #[ve, vp] 30) := ⟨_, rfl⟩
  obtain ⟨g0, hg0⟩ : ∃ g, g = w.heap.size := ⟨_, rfl⟩
  have x0 : Ext w w0 := by rw [hw0]; exact (Mod.refl _ _).alloc _
  have b0 : RLogBox w0 g0 ve vp := ⟨by rw [hw0, hg0]; exact heap_alloc_new _ _⟩
  obtain ⟨d0, d1⟩ := b0.cells
  have HW := Lib.hid (And.intro hw0 (And.intro hg0 x0))
  have KE : Hid (∀ w', Ext w0 w' → LogIn w' ve vp V L ∧ RLogBox w' g0 ve vp) := Lib.hid fun w' x => ⟨h.ext (x0.trans x), b0.ext x⟩
  obtain ⟨B, hB⟩ : ∃ B, B = mayL L := ⟨_, rfl⟩
  rw [← hB]
  have HB := Lib.hid hB
  clear hB h hw0 hg0 x0 b0
  by_cases z : L.ev.length ≤ 1000 ∧ L.pr.length ≤ 1000
  case neg =>
    have hf : mayL L = false := by
      cases hm : mayL L with
      | false => rfl
      | true => exact absurd (mayL_iff.1 hm).1 z
    have HF := Lib.hid hf
    clear hf
    rcases (by omega : 1000 < L.ev.length ∨ (L.ev.length ≤ 1000 ∧ 1000 < L.pr.length)) with z1 | ⟨z1, z2⟩
    case' inl => have y1 : (1000 : Int) < (L.ev.length : Int) := by omega
    case' inr =>
      have y1 : ¬ (1000 : Int) < (L.ev.length : Int) := by omega
      have y2 : (1000 : Int) < (L.pr.length : Int) := by omega
    all_goals
      clear z
      go_enter Try.func58, Try.ntmps58
      go_upto_region 1 with fail
      rw [← HW.out.1, ← HW.out.2.1]
      go_wp2_with fail
      go_ret
      exact ⟨ret_bool (by rw [HB.out]; exact HF.out.symm), HW.out.2.2⟩
  obtain ⟨z1, z2⟩ := z
  have y1 : ¬ (1000 : Int) < (L.ev.length : Int) := by omega
  have y2 : ¬ (1000 : Int) < (L.pr.length : Int) := by omega
  go_enter Try.func58, Try.ntmps58
  go_upto_region 1 with fail
  rw [← HW.out.1, ← HW.out.2.1]
  go_wp2_with fail
  clear d0 d1 s1 s2
  go_loopw [3] (fun s20 wr => ∃ k : Nat, k ≤ L.ev.length ∧ s20 = .int .i64 (k : Int) ∧ (∀ j, j < k → evOk1 L.ev j = true) ∧ Ext w0 wr) (fun i _ => L.ev.length - (intOf i).toNat)
  case atStart => exact ⟨0, Nat.zero_le _, rfl, fun j hj => absurd hj (Nat.not_lt_zero _), Mod.refl _ _⟩
  case round =>
    obtain ⟨k, hk, rfl, hp, x⟩ := hrel
    have HP := Lib.hid (And.intro hp x)
    obtain ⟨hlg, hb0⟩ := KE.out wr x
    obtain ⟨d0, d1⟩ := hb0.cells
    clear hp x hb0
    by_cases hlt : k < L.ev.length
    · have hlt' : (k : Int) < (L.ev.length : Int) := by omega
      have i0 := HI.out k hlt
      have hev := hlg.ev k hlt
      obtain ⟨c0, c1, c2, c3, c4, c5, c6, c7, c8, c9⟩ := hlg.cells hlt
      obtain ⟨e, he⟩ : ∃ e, e = evn L.ev k := ⟨_, rfl⟩
      obtain ⟨v, hv⟩ : ∃ v, v = V k := ⟨_, rfl⟩
      obtain ⟨A, hA⟩ : ∃ A, A = at_ ve (k * 10) := ⟨_, rfl⟩
      rw [← hA] at i0 c0 c1 c2 c3 c4 c5 c6 c7 c8 c9
      rw [← he] at c0 c1 c2 c3 c4 c5 c6 hev
      rw [← hv] at c7 c8 c9 hev
      obtain ⟨k1, k2, k3, t1, t2, t3⟩ := ev_facts hev
      have ho := evOk1_of (L := L.ev) (n := k) he
      have HO := Lib.hid (And.intro ho he)
      have HV := Lib.hid hev
      have hk1 := HSM.out k hlt
      rw [← he] at hk1
      have HK1 := Lib.hid hk1
      have KX := Lib.hid (fun w' (X : Ext wr w') => KE.out w' (HP.out.2.trans X))
      clear hlg hev he hv hA ho hk1
      go_wp2_with fail
      refine (shape_any _ e v HV.out HK1.out).mono ?_
      rintro r w2 ⟨rfl, x2⟩
      clear d0 d1 c0 c1 c2 c3 c4 c5 c6 c7 c8 c9 i0
      obtain ⟨d0, d1⟩ := (KX.out w2 x2).2.cells
      by_cases hf : evShape e = true
      case neg =>
        have hf' : evShape e = false := by simpa using hf
        have HF := Lib.hid (mayL_false1 hlt (HO.out.1 false (by rw [show (decide (0 ≤ e.ag ∧ e.ag < 64) && evFields e) = evShape e from rfl, hf', Bool.false_and])))
        rw [hf']
        clear hf hf'
        go_wp2_with fail
        go_ret
        exact ⟨ret_bool (by rw [HB.out]; exact HF.out.symm), HW.out.2.2.trans (HP.out.2.trans x2)⟩
      case pos =>
        rw [hf]
        have HFF := Lib.hid hf
        clear hf
        go_wp2_with fail
        refine (rread_any _ ve vp V L (KX.out w2 x2).1 k hlt (fun i hi => ?_) z1).mono ?_
        · by_cases e0 : i = k
          · subst e0; rw [← HO.out.2]; have := HFF.out; unfold evShape at this; simp only [Bool.and_eq_true] at this; exact this.2
          · exact evOk1_fields (HP.out.1 i (by omega))
        rintro r w3 ⟨rfl, x3⟩
        have x3' := x2.trans x3
        by_cases hr : evReads L.ev k = true
        case neg =>
          have hr' : evReads L.ev k = false := by simpa using hr
          have HF := Lib.hid (mayL_false1 hlt (HO.out.1 false (by rw [hr', Bool.and_false])))
          rw [hr']
          clear hr hr'
          go_wp2_with fail
          go_ret
          exact ⟨ret_bool (by rw [HB.out]; exact HF.out.symm), HW.out.2.2.trans (HP.out.2.trans x3')⟩
        case pos =>
          have HT := Lib.hid (HO.out.1 true (by rw [show (decide (0 ≤ e.ag ∧ e.ag < 64) && evFields e) = evShape e from rfl, hr, HFF.out]; rfl))
          rw [hr]
          clear hr
          go_wp2_with fail
          go_roundw
          case rel => exact ⟨k + 1, by omega, by go_num, upto_succ HP.out.1 HT.out, HP.out.2.trans x3'⟩
          case measure => simp [intOf]; omega
    · have hlt' : ¬ (k : Int) < (L.ev.length : Int) := by omega
      obtain rfl : k = L.ev.length := by omega
      clear hlg
      go_wp2_with fail
      obtain ⟨w1, hw1⟩ : ∃ w1, w1 = wr := ⟨_, rfl⟩
      rw [← hw1] at HP
      rw [← hw1]
      clear hw1 d0 d1
      go_loopw [4] (fun s48 wr => ∃ k : Nat, k ≤ L.pr.length ∧ s48 = .int .i64 (k : Int) ∧ (∀ j, j < k → prOk L.ev.length (prn L.pr j) = true) ∧ Ext w1 wr) (fun i _ => L.pr.length - (intOf i).toNat)
      case atStart => exact ⟨0, Nat.zero_le _, rfl, fun j hj => absurd hj (Nat.not_lt_zero _), Mod.refl _ _⟩
      case round =>
        obtain ⟨i, hi, rfl, hp, x⟩ := hrel
        have HP2 := Lib.hid (And.intro hp x)
        have X0 : Ext w0 wr := HP.out.2.trans x
        obtain ⟨hlg, hb0⟩ := KE.out wr X0
        obtain ⟨d0, d1⟩ := hb0.cells
        clear hp x hb0
        by_cases hil : i < L.pr.length
        · have hil' : (i : Int) < (L.pr.length : Int) := by omega
          have i0 := HJ.out i hil
          obtain ⟨c0, c1⟩ := hlg.pcells hil
          have hpi := hlg.pok i hil
          have hpo : prOk L.ev.length (prn L.pr i) = decide (0 ≤ (prn L.pr i).1 ∧ (prn L.pr i).1 < (prn L.pr i).2 ∧ (prn L.pr i).2 < (L.ev.length : Int)) := rfl
          have hpf := mayL_false2 (L := L) hil
          obtain ⟨p1, hp1⟩ : ∃ p, p = (prn L.pr i).1 := ⟨_, rfl⟩
          obtain ⟨p2, hp2⟩ : ∃ p, p = (prn L.pr i).2 := ⟨_, rfl⟩
          rw [← hp1] at c0 hpo
          rw [← hp2] at c1 hpo
          obtain ⟨A, hA⟩ : ∃ A, A = at_ vp (i * 2) := ⟨_, rfl⟩
          rw [← hA] at i0 c0 c1
          have e0 : (wr.alloc (.cells #[.int .i64 p1, .int .i64 p2] 48)).cell? ⟨g0, 0, none⟩ = some ve := Ext.cell ((Mod.refl _ _).alloc _) d0
          have HX := Lib.hid (And.intro hpo (And.intro hpf X0))
          clear hlg hpi hpo hpf hp1 hp2 hA X0
          rcases (by omega : p1 < 0 ∨ (0 ≤ p1 ∧ (L.ev.length : Int) ≤ p2) ∨ (0 ≤ p1 ∧ p2 < (L.ev.length : Int) ∧ p2 ≤ p1) ∨ (0 ≤ p1 ∧ p2 < (L.ev.length : Int) ∧ p1 < p2)) with g | ⟨g1, g2⟩ | ⟨g1, g2, g3⟩ | ⟨g1, g2, g3⟩
          case inr.inr.inr =>
            have HT : Hid (prOk L.ev.length (prn L.pr i) = true) := Lib.hid (by rw [HX.out.1]; simp; omega)
            go_wp2_with fail
            go_roundw
            case rel => exact ⟨i + 1, by omega, by go_num, upto_succ HP2.out.1 HT.out, HP2.out.2.alloc _⟩
            case measure => simp [intOf]; omega
          all_goals
            have HF := Lib.hid (HX.out.2.1 (by rw [HX.out.1]; simp; omega))
            go_wp2_with fail
            go_ret
            exact ⟨ret_bool (by rw [HB.out]; exact HF.out.symm), (HW.out.2.2.trans HX.out.2.2).alloc _⟩
        · have hil' : ¬ (i : Int) < (L.pr.length : Int) := by omega
          obtain rfl : i = L.pr.length := by omega
          clear hlg
          have HT : Hid (mayL L = true) := Lib.hid (mayL_iff.2 ⟨⟨z1, z2⟩, HP.out.1, HP2.out.1⟩)
          have X1 := Lib.hid X0
          clear X0
          go_wp2_with fail
          go_ret
          exact ⟨ret_bool (by rw [HB.out]; exact HT.out.symm), HW.out.2.2.trans X1.out⟩
end Go.Proofs.Ythmkcgiiakinmaa
