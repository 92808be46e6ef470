/-
  The contract of event.May. No condition.
-/
import Derived.Test.YtbhocahmhmafmaaGreatVEvReads
namespace Go.Proofs.YtbhocahmhmafmaaGreat
open Go.Ren Go.RowKit
set_option linter.unusedVariables false
theorem evOk1_of {L : List Ev} {n : Nat} {e : Ev} (he : e = evn L n) (b : Bool) (hb : b = (decide (0 ≤ e.ag ∧ e.ag < 64) && evFields e && evReads L n)) : evOk1 L n = b := by
 subst he; subst hb; rfl
theorem mayL_false1 {L : Lg} {n : Nat} (hn : n < L.ev.length) (h : evOk1 L.ev n = false) : mayL L = false := by
 cases hm : mayL L with
 | false => rfl
 | true => have := (mayL_iff.1 hm).2.1 n hn; rw [h] at this; cases this
theorem mayL_false2 {L : Lg} {i : Nat} (hi : i < L.pr.length) (h : prOk L.ev.length (prn L.pr i) = false) : mayL L = false := by
 cases hm : mayL L with
 | false => rfl
 | true => have := (mayL_iff.1 hm).2.2 i hi; rw [h] at this; cases this
set_option maxRecDepth 100000 in
set_option maxHeartbeats 1600000 in
theorem may_any (w : World) (ve vp : Value) (V : Nat → Vs) (L : Lg) (h : LogIn w ve vp V L) :
 Calls Tryz.prog 24 #[.agg #[ve, vp]] w (FPost (mayL L) w) := by
 have q1 := Sl.cells_eq h.row
 have q2 := Sl.cells_eq h.prow
 have s1 := Sl.run_st (P := Tryz.prog) h.row
 have s2 := Sl.run_st (P := Tryz.prog) h.prow
 have l1 := h.row.run_len (P := Tryz.prog) IEv.und 3
 have l2 := h.prow.run_len (P := Tryz.prog) IP.und 3
 have HI := Lib.hid (h.row.run_idx (P := Tryz.prog) IEv.und IEv.size .i64)
 have HJ := Lib.hid (h.prow.run_idx (P := Tryz.prog) IP.und IP.size .i64)
 obtain ⟨w0, hw0⟩ : ∃ w0, w0 = w.alloc (.cells #[ve, vp] 48) := ⟨_, rfl⟩
 obtain ⟨g0, hg0⟩ : ∃ g, g = w.heap.size := ⟨_, rfl⟩
 have x0 : Ext w w0 := by rw [hw0]; exact (Mod.refl _ _).alloc _
 have b0 : LogBox w0 g0 ve vp := ⟨by rw [hw0, hg0]; exact heap_alloc_new _ _⟩
 obtain ⟨d0, d1⟩ := b0.cells
 have HW := Lib.hid (And.intro hw0 (And.intro hg0 x0))
 have KE : Hid (∀ w', Ext w0 w' → LogIn w' ve vp V L ∧ LogBox w' g0 ve vp) := Lib.hid fun w' x => ⟨h.ext (x0.trans x), b0.ext x⟩
 obtain ⟨B, hB⟩ : ∃ B, B = mayL L := ⟨_, rfl⟩
 rw [← hB]
 have HB := Lib.hid hB
 clear hB h hw0 hg0 x0 b0
 by_cases z : L.ev.length ≤ 1000 ∧ L.pr.length ≤ 1000
 case neg =>
  have hf : mayL L = false := by
   cases hm : mayL L with
   | false => rfl
   | true => exact absurd (mayL_iff.1 hm).1 z
  have HF := Lib.hid hf
  clear hf
  rcases (by omega : 1000 < L.ev.length ∨ (L.ev.length ≤ 1000 ∧ 1000 < L.pr.length)) with z1 | ⟨z1, z2⟩
  case' inl => have y1 : (1000 : Int) < (L.ev.length : Int) := by omega
  case' inr =>
   have y1 : ¬ (1000 : Int) < (L.ev.length : Int) := by omega
   have y2 : (1000 : Int) < (L.pr.length : Int) := by omega
  all_goals
   clear z
   go_enter Tryz.func24, Tryz.ntmps24
   go_upto_region 1 with fail
   rw [← HW.out.1, ← HW.out.2.1]
   go_wp2_with fail
   go_ret
   exact ⟨ret_bool (by rw [HB.out]; exact HF.out.symm), HW.out.2.2⟩
 obtain ⟨z1, z2⟩ := z
 have y1 : ¬ (1000 : Int) < (L.ev.length : Int) := by omega
 have y2 : ¬ (1000 : Int) < (L.pr.length : Int) := by omega
 go_enter Tryz.func24, Tryz.ntmps24
 go_upto_region 1 with fail
 rw [← HW.out.1, ← HW.out.2.1]
 go_wp2_with fail
 clear d0 d1 s1 s2
 go_loopw [20] (fun s20 wr => ∃ k : Nat, k ≤ L.ev.length ∧ s20 = .int .i64 (k : Int) ∧ (∀ j, j < k → evOk1 L.ev j = true) ∧ Ext w0 wr) (fun i _ => L.ev.length - (intOf i).toNat)
 case atStart => exact ⟨0, Nat.zero_le _, rfl, fun j hj => absurd hj (Nat.not_lt_zero _), Mod.refl _ _⟩
 case round =>
  obtain ⟨k, hk, rfl, hp, x⟩ := hrel
  have HP := Lib.hid (And.intro hp x)
  obtain ⟨hlg, hb0⟩ := KE.out wr x
  obtain ⟨d0, d1⟩ := hb0.cells
  clear hp x hb0
  by_cases hlt : k < L.ev.length
  · have hlt' : (k : Int) < (L.ev.length : Int) := by omega
    have i0 := HI.out k hlt
    have hev := hlg.ev k hlt
    obtain ⟨c0, c1, c2, c3, c4, c5, c6, c7, c8, c9⟩ := hlg.cells hlt
    obtain ⟨e, he⟩ : ∃ e, e = evn L.ev k := ⟨_, rfl⟩
    obtain ⟨v, hv⟩ : ∃ v, v = V k := ⟨_, rfl⟩
    obtain ⟨A, hA⟩ : ∃ A, A = at_ ve (k * 10) := ⟨_, rfl⟩
    rw [← hA] at i0 c0 c1 c2 c3 c4 c5 c6 c7 c8 c9
    rw [← he] at c0 c1 c2 c3 c4 c5 c6 hev
    rw [← hv] at c7 c8 c9 hev
    obtain ⟨k1, k2, k3, t1, t2, t3⟩ := ev_facts hev
    have hag := hev.ok.ag
    have ho := evOk1_of (L := L.ev) (n := k) he
    obtain ⟨w1, hw1⟩ : ∃ w1, w1 = wr.alloc (.cells (evArr e v) 70) := ⟨_, rfl⟩
    obtain ⟨g1, hg1⟩ : ∃ g, g = wr.heap.size := ⟨_, rfl⟩
    have x1 : Ext wr w1 := by rw [hw1]; exact (Mod.refl _ _).alloc _
    have b1 : EvBox w1 g1 e v := by rw [hw1, hg1]; exact EvBox.of wr e v
    have HW1 := Lib.hid (And.intro hw1 hg1)
    have key : ∀ w', Ext w1 w' → LogIn w' ve vp V L ∧ LogBox w' g0 ve vp ∧ EvBox w' g1 e v ∧ EvAt w' e v ∧ Ext w0 w' := fun w' x => ⟨hlg.ext (x1.trans x), (KE.out _ (HP.out.2.trans (x1.trans x))).2, b1.ext x, hev.ext (x1.trans x), HP.out.2.trans (x1.trans x)⟩
    have KY := Lib.hid key
    have HO := Lib.hid (And.intro ho he)
    clear hlg hev he hv hA hw1 hg1 x1 b1 key ho
    unfold I64 at hag
    go_upto_region 6 with fail
    rw [← HW1.out.1, ← HW1.out.2]
    clear c0 c1 c2 c3 c4 c5 c6 c7 c8 c9 d0 d1 t1 t2 t3 k1 k2 k3 i0
    obtain ⟨a0, a1, a2, a3, a4, a5, a6, a7, a8, a9⟩ := (KY.out w1 (Mod.refl _ _)).2.2.1.cells
    rcases (by omega : e.ag < 0 ∨ (0 ≤ e.ag ∧ 64 ≤ e.ag) ∨ (0 ≤ e.ag ∧ e.ag < 64)) with g | ⟨g, g'⟩ | ⟨g, g'⟩
    case inl =>
     have HF := Lib.hid (mayL_false1 hlt (HO.out.1 false (by simp; omega)))
     go_wp2_with fail
     go_ret
     exact ⟨ret_bool (by rw [HB.out]; exact HF.out.symm), HW.out.2.2.trans (KY.out w1 (Mod.refl _ _)).2.2.2.2⟩
    case inr.inl =>
     have HF := Lib.hid (mayL_false1 hlt (HO.out.1 false (by simp; omega)))
     go_wp2_with fail
     go_ret
     exact ⟨ret_bool (by rw [HB.out]; exact HF.out.symm), HW.out.2.2.trans (KY.out w1 (Mod.refl _ _)).2.2.2.2⟩
    case inr.inr =>
     go_wp2_with fail
     refine (fields_any _ e v (KY.out w1 (Mod.refl _ _)).2.2.2.1).mono ?_
     rintro r w2 ⟨rfl, x2⟩
     clear a0 a1 a2 a3 a4 a5 a6 a7 a8 a9
     obtain ⟨a0, a1, a2, a3, a4, a5, a6, a7, a8, a9⟩ := (KY.out w2 x2).2.2.1.cells
     obtain ⟨d0, d1⟩ := (KY.out w2 x2).2.1.cells
     by_cases hf : evFields e = true
     case neg =>
      have hf' : evFields e = false := by simpa using hf
      have HF := Lib.hid (mayL_false1 hlt (HO.out.1 false (by rw [hf', Bool.and_false, Bool.false_and])))
      rw [hf']
      clear hf hf'
      go_wp2_with fail
      go_ret
      exact ⟨ret_bool (by rw [HB.out]; exact HF.out.symm), HW.out.2.2.trans (KY.out w2 x2).2.2.2.2⟩
     case pos =>
      rw [hf]
      have HFF := Lib.hid hf
      clear hf
      go_wp2_with fail
      refine (evreads_any _ ve vp V L (KY.out w2 x2).1 k hlt (fun i hi => ?_) z1).mono ?_
      · by_cases e0 : i = k
        · subst e0; rw [← HO.out.2]; exact HFF.out
        · exact evOk1_fields (HP.out.1 i (by omega))
      rintro r w3 ⟨rfl, x3⟩
      have x3' := x2.trans x3
      by_cases hr : evReads L.ev k = true
      case neg =>
       have hr' : evReads L.ev k = false := by simpa using hr
       have HF := Lib.hid (mayL_false1 hlt (HO.out.1 false (by rw [hr', Bool.and_false])))
       rw [hr']
       clear hr hr'
       go_wp2_with fail
       go_ret
       exact ⟨ret_bool (by rw [HB.out]; exact HF.out.symm), HW.out.2.2.trans (KY.out w3 x3').2.2.2.2⟩
      case pos =>
       have HT := Lib.hid (HO.out.1 true (by rw [hr, HFF.out]; simp; omega))
       rw [hr]
       clear hr
       go_wp2_with fail
       go_roundw
       case rel => exact ⟨k + 1, by omega, by go_num, upto_succ HP.out.1 HT.out, (KY.out w3 x3').2.2.2.2⟩
       case measure => simp [intOf]; omega
  · have hlt' : ¬ (k : Int) < (L.ev.length : Int) := by omega
    obtain rfl : k = L.ev.length := by omega
    clear hlg
    go_wp2_with fail
    obtain ⟨w1, hw1⟩ : ∃ w1, w1 = wr := ⟨_, rfl⟩
    rw [← hw1] at HP
    rw [← hw1]
    clear hw1 d0 d1
    go_loopw [48] (fun s48 wr => ∃ k : Nat, k ≤ L.pr.length ∧ s48 = .int .i64 (k : Int) ∧ (∀ j, j < k → prOk L.ev.length (prn L.pr j) = true) ∧ Ext w1 wr) (fun i _ => L.pr.length - (intOf i).toNat)
    case atStart => exact ⟨0, Nat.zero_le _, rfl, fun j hj => absurd hj (Nat.not_lt_zero _), Mod.refl _ _⟩
    case round =>
     obtain ⟨i, hi, rfl, hp, x⟩ := hrel
     have HP2 := Lib.hid (And.intro hp x)
     have X0 : Ext w0 wr := HP.out.2.trans x
     obtain ⟨hlg, hb0⟩ := KE.out wr X0
     obtain ⟨d0, d1⟩ := hb0.cells
     clear hp x hb0
     by_cases hil : i < L.pr.length
     · have hil' : (i : Int) < (L.pr.length : Int) := by omega
       have i0 := HJ.out i hil
       obtain ⟨c0, c1⟩ := hlg.pcells hil
       have hpi := hlg.pok i hil
       have hpo : prOk L.ev.length (prn L.pr i) = decide (0 ≤ (prn L.pr i).1 ∧ (prn L.pr i).1 < (prn L.pr i).2 ∧ (prn L.pr i).2 < (L.ev.length : Int)) := rfl
       have hpf := mayL_false2 (L := L) hil
       obtain ⟨p1, hp1⟩ : ∃ p, p = (prn L.pr i).1 := ⟨_, rfl⟩
       obtain ⟨p2, hp2⟩ : ∃ p, p = (prn L.pr i).2 := ⟨_, rfl⟩
       rw [← hp1] at c0 hpo
       rw [← hp2] at c1 hpo
       obtain ⟨A, hA⟩ : ∃ A, A = at_ vp (i * 2) := ⟨_, rfl⟩
       rw [← hA] at i0 c0 c1
       have e0 : (wr.alloc (.cells #[.int .i64 p1, .int .i64 p2] 112)).cell? ⟨g0, 0, none⟩ = some ve := Ext.cell ((Mod.refl _ _).alloc _) d0
       have HX := Lib.hid (And.intro hpo (And.intro hpf X0))
       clear hlg hpi hpo hpf hp1 hp2 hA X0
       rcases (by omega : p1 < 0 ∨ (0 ≤ p1 ∧ p2 ≤ p1) ∨ (0 ≤ p1 ∧ p1 < p2 ∧ (L.ev.length : Int) ≤ p2) ∨ (0 ≤ p1 ∧ p1 < p2 ∧ p2 < (L.ev.length : Int))) with g | ⟨g1, g2⟩ | ⟨g1, g2, g3⟩ | ⟨g1, g2, g3⟩
       case inr.inr.inr =>
        have HT : Hid (prOk L.ev.length (prn L.pr i) = true) := Lib.hid (by rw [HX.out.1]; simp; omega)
        go_wp2_with fail
        go_roundw
        case rel => exact ⟨i + 1, by omega, by go_num, upto_succ HP2.out.1 HT.out, HP2.out.2.alloc _⟩
        case measure => simp [intOf]; omega
       all_goals
        have HF := Lib.hid (HX.out.2.1 (by rw [HX.out.1]; simp; omega))
        go_wp2_with fail
        go_ret
        exact ⟨ret_bool (by rw [HB.out]; exact HF.out.symm), (HW.out.2.2.trans HX.out.2.2).alloc _⟩
     · have hil' : ¬ (i : Int) < (L.pr.length : Int) := by omega
       obtain rfl : i = L.pr.length := by omega
       clear hlg
       have HT : Hid (mayL L = true) := Lib.hid (mayL_iff.2 ⟨⟨z1, z2⟩, HP.out.1, HP2.out.1⟩)
       have X1 := Lib.hid X0
       clear X0
       go_wp2_with fail
       go_ret
       exact ⟨ret_bool (by rw [HB.out]; exact HT.out.symm), HW.out.2.2.trans X1.out⟩
end Go.Proofs.YtbhocahmhmafmaaGreat
