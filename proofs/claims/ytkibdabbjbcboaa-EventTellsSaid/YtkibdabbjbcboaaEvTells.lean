/-
  EventTells: the walk of renlaw14.EventTells. No condition.
-/
import Derived.Test.YtkibdabbjbcboaaEvFirst
import Derived.Test.YtkibdabbjbcboaaEvTellsLaw
namespace Go.Proofs.Ytkibdabbjbcboaa
open Go.Ren Go.RowKit
set_option linter.unusedVariables false

set_option maxRecDepth 100000 in
set_option maxHeartbeats 1600000 in
theorem tells_all (a b : Ev) (v u : Vs) (w : World) (ha : EvAt w a v) (hb : EvAt w b u) :
    Calls Try.prog 11 #[evV a v, evV b u] w (FPost true w) := by
  obtain ⟨k1, k2, k3, t1, t2, t3⟩ := ev_facts ha
  obtain ⟨k4, k5, k6, t4, t5, t6⟩ := ev_facts hb
  obtain ⟨w0, hw0⟩ : ∃ w0, w0 = (w.alloc (.cells (evArr a v) 46)).alloc (.cells (evArr b u) 46) := ⟨_, rfl⟩
  obtain ⟨g, hg⟩ : ∃ g, g = w.heap.size := ⟨_, rfl⟩
  have x0 : Ext w w0 := by rw [hw0]; exact ((Mod.refl _ _).alloc _).alloc _
  have b0 : EvBox w0 g a v := ⟨by rw [hw0, hg]; exact heap_alloc2_old _ _ _⟩
  have b1 : EvBox w0 (g + 1) b u := ⟨by rw [hw0, hg]; exact heap_alloc2_new _ _ _⟩
  have KE : Hid (∀ w', Ext w0 w' → EvBox w' g a v ∧ EvBox w' (g + 1) b u ∧ EvAt w' a v ∧ EvAt w' b u) := Lib.hid fun w' x => ⟨b0.ext x, b1.ext x, ha.ext (x0.trans x), hb.ext (x0.trans x)⟩
  have HW := Lib.hid (And.intro hw0 (And.intro hg x0))
  have ia := ha.ok
  have ib := hb.ok
  clear hw0 hg x0 b0 b1 ha hb
  unfold evV
  go_enter Try.func11, Try.ntmps11
  go_upto_region 1 with fail
  rw [← HW.out.1, ← HW.out.2.1]
  clear t1 t2 t3 t4 t5 t6 k1 k2 k3 k4 k5 k6
  go_wp2_with fail
  refine (first14_any _).mono ?_
  rintro e w1 ⟨rfl, x1⟩
  obtain ⟨c0, c1, c2, c3, c4, c5, c6, c7, c8, c9⟩ := (KE.out w1 x1).1.cells
  obtain ⟨d0, d1, d2, d3, d4, d5, d6, d7, d8, d9⟩ := (KE.out w1 x1).2.1.cells
  rcases (by omega : (100 < a.size) ∨ (a.size ≤ 100 ∧ 100 < b.size) ∨ (a.size ≤ 100 ∧ b.size ≤ 100 ∧ a.at_ < -1000) ∨ (a.size ≤ 100 ∧ b.size ≤ 100 ∧ -1000 ≤ a.at_ ∧ 1000 < a.at_) ∨ (a.size ≤ 100 ∧ b.size ≤ 100 ∧ -1000 ≤ a.at_ ∧ a.at_ ≤ 1000 ∧ b.at_ < -1000) ∨ (a.size ≤ 100 ∧ b.size ≤ 100 ∧ -1000 ≤ a.at_ ∧ a.at_ ≤ 1000 ∧ -1000 ≤ b.at_ ∧ 1000 < b.at_) ∨ (a.size ≤ 100 ∧ b.size ≤ 100 ∧ -1000 ≤ a.at_ ∧ a.at_ ≤ 1000 ∧ -1000 ≤ b.at_ ∧ b.at_ ≤ 1000)) with z0 | ⟨z0, z1⟩ | ⟨z0, z1, z2⟩ | ⟨z0, z1, z2, z3⟩ | ⟨z0, z1, z2, z3, z4⟩ | ⟨z0, z1, z2, z3, z4, z5⟩ | ⟨z0, z1, z2, z3, z4, z5⟩
  case inr.inr.inr.inr.inr.inr =>
    go_wp2_with fail
    clear c0 c1 c2 c3 c4 c5 c6 c7 c8 c9 d0 d1 d2 d3 d4 d5 d6 d7 d8 d9
    have X1 := Lib.hid x1
    clear x1
    go_loopw [5, 6] (fun s5 s6 wr => ∃ i : Nat, i ≤ a.size.toNat ∧ s6 = .int .i64 (i : Int) ∧ s5 = .bool (metB (a.at_ - b.at_) b.size i) ∧ Ext w0 wr) (fun _ i _ => a.size.toNat - (intOf i).toNat)
    case atStart => exact ⟨0, Nat.zero_le _, rfl, rfl, X1.out⟩
    case round =>
      obtain ⟨i, hi, rfl, rfl, x2⟩ := hrel
      obtain ⟨-, c1, -, -, c4, c5, c6, -⟩ := (KE.out _ x2).1.cells
      obtain ⟨-, d1, -, -, d4, d5, d6, -⟩ := (KE.out _ x2).2.1.cells
      by_cases hlt : (i : Int) < a.size
      · obtain ⟨M, hM⟩ : ∃ M, M = metB (a.at_ - b.at_) b.size i := ⟨_, rfl⟩
        rw [← hM]
        have HM := Lib.hid hM
        have HS := Lib.hid (metB_succ (a.at_ - b.at_) b.size i)
        have X2 := Lib.hid x2
        clear hM x2 c1 c4 c5 c6 d1 d4 d5 d6
        obtain ⟨-, -, -, -, -, c5, c6, -⟩ := (KE.out _ X2.out).1.cells
        go_wp2_with fail
        clear c5 c6
        go_loopw [5, 7] (fun s5 s7 wr => ∃ k : Nat, k ≤ b.size.toNat ∧ s7 = .int .i64 (k : Int) ∧ s5 = .bool (M || decide (0 ≤ a.at_ - b.at_ + (i : Int) ∧ a.at_ - b.at_ + (i : Int) < (k : Int))) ∧ Ext w0 wr) (fun _ k _ => b.size.toNat - (intOf k).toNat)
        case atStart => exact ⟨0, Nat.zero_le _, rfl, by congr 1; rw [Bool.eq_iff_iff]; simp; omega, X2.out⟩
        case round =>
          obtain ⟨k, hk, rfl, rfl, x3⟩ := hrel
          obtain ⟨-, -, -, -, -, c5, c6, -⟩ := (KE.out _ x3).1.cells
          obtain ⟨-, -, -, -, -, d5, d6, -⟩ := (KE.out _ x3).2.1.cells
          have X3 := Lib.hid x3
          clear x3
          by_cases hkl : (k : Int) < b.size
          · obtain ⟨B, hB⟩ : ∃ B, B = (M || decide (0 ≤ a.at_ - b.at_ + (i : Int) ∧ a.at_ - b.at_ + (i : Int) < (k : Int))) := ⟨_, rfl⟩
            rw [← hB]
            have HB := Lib.hid hB
            clear hB
            cases B with
            | true =>
              go_wp2_with fail
              go_roundw
              case rel =>
                refine ⟨k + 1, by omega, by go_num, ?_, X3.out⟩
                congr 1
                have h := HB.out.symm
                rw [Bool.eq_iff_iff]
                simp only [Bool.or_eq_true, decide_eq_true_eq] at h ⊢
                refine ⟨fun _ => ?_, fun _ => trivial⟩
                rcases h with h | h
                · exact .inl h
                · exact .inr (by omega)
              case measure => simp [intOf]; omega
            | false =>
              by_cases he : a.at_ + (i : Int) = b.at_ + (k : Int)
              case' pos => have hx : (a.at_ + (i : Int) == b.at_ + (k : Int)) = true := by simpa using he
              case' neg => have hx : (a.at_ + (i : Int) == b.at_ + (k : Int)) = false := by simpa using he
              all_goals
                have HE := Lib.hid he
                clear he
                go_wp2_with fail
                go_roundw
                case rel =>
                  refine ⟨k + 1, by omega, by go_num, ?_, X3.out⟩
                  congr 1
                  have h := HB.out.symm
                  have he := HE.out
                  simp only [Bool.or_eq_false_iff, decide_eq_false_iff_not] at h
                  rw [h.1, Bool.false_or]
                  have h2 := h.2
                  symm
                  first | (rw [decide_eq_true_eq]; omega) | (rw [decide_eq_false_iff_not]; omega)
                case measure => simp [intOf]; omega
          · have hkb : Hid (k = b.size.toNat) := Lib.hid (by omega)
            go_wp2_with fail
            go_roundw
            case rel =>
              refine ⟨i + 1, by omega, by go_num, ?_, X3.out⟩
              congr 1
              rw [HS.out, HM.out]
              congr 1
              have hk2 := hkb.out
              rw [Bool.eq_iff_iff]; simp only [decide_eq_true_eq]; omega
            case measure => simp [intOf]; omega
      · have hO : Hid (evOver a b = (decide (a.kind ≠ 0 ∧ b.kind ≠ 0 ∧ a.blk = b.blk) && metB (a.at_ - b.at_) b.size a.size.toNat) ∧ evEq a b = (decide (a.kind ≠ 0 ∧ b.kind ≠ 0 ∧ a.blk = b.blk) && decide (a.at_ = b.at_) && decide (a.size = b.size))) := Lib.hid ⟨tells_over, tells_eq⟩
        have hie : i = a.size.toNat := by omega
        rw [hie]
        obtain ⟨M, hM⟩ : ∃ M, M = metB (a.at_ - b.at_) b.size a.size.toNat := ⟨_, rfl⟩
        rw [← hM]
        rw [← hM] at hO
        clear hM hie
        rcases (by omega : (a.kind = 0) ∨ (a.kind ≠ 0 ∧ b.kind = 0) ∨ (a.kind ≠ 0 ∧ b.kind ≠ 0 ∧ a.blk ≠ b.blk) ∨ (a.kind ≠ 0 ∧ b.kind ≠ 0 ∧ a.blk = b.blk ∧ a.at_ ≠ b.at_) ∨ (a.kind ≠ 0 ∧ b.kind ≠ 0 ∧ a.blk = b.blk ∧ a.at_ = b.at_ ∧ a.size ≠ b.size) ∨ (a.kind ≠ 0 ∧ b.kind ≠ 0 ∧ a.blk = b.blk ∧ a.at_ = b.at_ ∧ a.size = b.size)) with k0 | ⟨k0, k1⟩ | ⟨k0, k1, k2⟩ | ⟨k0, k1, k2, k3⟩ | ⟨k0, k1, k2, k3, k4⟩ | ⟨k0, k1, k2, k3, k4⟩
        case inl =>
          have e0 : (a.kind != 0) = false := by simpa using k0
          have HO : Hid (evOver a b = false ∧ evEq a b = false) := Lib.hid (by rw [hO.out.1, hO.out.2]; simp_all)
          clear hO k0
          go_wp2_with fail
          clear c1 c4 c5 c6 d1 d4 d5 d6
          refine (first14_any _).mono ?_
          rintro r w3 ⟨rfl, y3⟩
          have E3 : Ext w0 w3 := Mod.trans x2 y3
          obtain ⟨c0, c1, c2, c3, c4, c5, c6, c7, c8, c9⟩ := (KE.out _ E3).1.cells
          obtain ⟨d0, d1, d2, d3, d4, d5, d6, d7, d8, d9⟩ := (KE.out _ E3).2.1.cells
          go_wp2_with fail
          refine (overlap_any _ a b v u (KE.out _ E3).2.2.1 (KE.out _ E3).2.2.2).mono ?_
          rintro r w4 ⟨rfl, y4⟩
          have E4 : Ext w0 w4 := E3.trans y4
          rw [HO.out.1]
          clear c0 c1 c2 c3 c4 c5 c6 c7 c8 c9 d0 d1 d2 d3 d4 d5 d6 d7 d8 d9
          obtain ⟨c0, c1, c2, c3, c4, c5, c6, c7, c8, c9⟩ := (KE.out _ E4).1.cells
          obtain ⟨d0, d1, d2, d3, d4, d5, d6, d7, d8, d9⟩ := (KE.out _ E4).2.1.cells
          go_wp2_with fail
          refine (equal_any _ a b v u (KE.out _ E4).2.2.1 (KE.out _ E4).2.2.2).mono ?_
          rintro r w5 ⟨rfl, y5⟩
          have E5 : Ext w0 w5 := E4.trans y5
          rw [HO.out.2]
          clear c0 c1 c2 c3 c4 c5 c6 c7 c8 c9 d0 d1 d2 d3 d4 d5 d6 d7 d8 d9
          obtain ⟨c0, c1, c2, c3, c4, c5, c6, c7, c8, c9⟩ := (KE.out _ E5).1.cells
          obtain ⟨d0, d1, d2, d3, d4, d5, d6, d7, d8, d9⟩ := (KE.out _ E5).2.1.cells
          go_wp2_with fail
          go_ret
          exact ⟨rfl, HW.out.2.2.trans E5⟩
        case inr.inl =>
          have e0 : (a.kind != 0) = true := by simpa using k0
          have e1 : (b.kind != 0) = false := by simpa using k1
          have HO : Hid (evOver a b = false ∧ evEq a b = false) := Lib.hid (by rw [hO.out.1, hO.out.2]; simp_all)
          clear hO k0 k1
          go_wp2_with fail
          clear c1 c4 c5 c6 d1 d4 d5 d6
          refine (first14_any _).mono ?_
          rintro r w3 ⟨rfl, y3⟩
          have E3 : Ext w0 w3 := Mod.trans x2 y3
          obtain ⟨c0, c1, c2, c3, c4, c5, c6, c7, c8, c9⟩ := (KE.out _ E3).1.cells
          obtain ⟨d0, d1, d2, d3, d4, d5, d6, d7, d8, d9⟩ := (KE.out _ E3).2.1.cells
          go_wp2_with fail
          refine (overlap_any _ a b v u (KE.out _ E3).2.2.1 (KE.out _ E3).2.2.2).mono ?_
          rintro r w4 ⟨rfl, y4⟩
          have E4 : Ext w0 w4 := E3.trans y4
          rw [HO.out.1]
          clear c0 c1 c2 c3 c4 c5 c6 c7 c8 c9 d0 d1 d2 d3 d4 d5 d6 d7 d8 d9
          obtain ⟨c0, c1, c2, c3, c4, c5, c6, c7, c8, c9⟩ := (KE.out _ E4).1.cells
          obtain ⟨d0, d1, d2, d3, d4, d5, d6, d7, d8, d9⟩ := (KE.out _ E4).2.1.cells
          go_wp2_with fail
          refine (equal_any _ a b v u (KE.out _ E4).2.2.1 (KE.out _ E4).2.2.2).mono ?_
          rintro r w5 ⟨rfl, y5⟩
          have E5 : Ext w0 w5 := E4.trans y5
          rw [HO.out.2]
          clear c0 c1 c2 c3 c4 c5 c6 c7 c8 c9 d0 d1 d2 d3 d4 d5 d6 d7 d8 d9
          obtain ⟨c0, c1, c2, c3, c4, c5, c6, c7, c8, c9⟩ := (KE.out _ E5).1.cells
          obtain ⟨d0, d1, d2, d3, d4, d5, d6, d7, d8, d9⟩ := (KE.out _ E5).2.1.cells
          go_wp2_with fail
          go_ret
          exact ⟨rfl, HW.out.2.2.trans E5⟩
        case inr.inr.inl =>
          have e0 : (a.kind != 0) = true := by simpa using k0
          have e1 : (b.kind != 0) = true := by simpa using k1
          have e2 : (a.blk == b.blk) = false := by simpa using k2
          have HO : Hid (evOver a b = false ∧ evEq a b = false) := Lib.hid (by rw [hO.out.1, hO.out.2]; simp_all)
          clear hO k0 k1 k2
          go_wp2_with fail
          clear c1 c4 c5 c6 d1 d4 d5 d6
          refine (first14_any _).mono ?_
          rintro r w3 ⟨rfl, y3⟩
          have E3 : Ext w0 w3 := Mod.trans x2 y3
          obtain ⟨c0, c1, c2, c3, c4, c5, c6, c7, c8, c9⟩ := (KE.out _ E3).1.cells
          obtain ⟨d0, d1, d2, d3, d4, d5, d6, d7, d8, d9⟩ := (KE.out _ E3).2.1.cells
          go_wp2_with fail
          refine (overlap_any _ a b v u (KE.out _ E3).2.2.1 (KE.out _ E3).2.2.2).mono ?_
          rintro r w4 ⟨rfl, y4⟩
          have E4 : Ext w0 w4 := E3.trans y4
          rw [HO.out.1]
          clear c0 c1 c2 c3 c4 c5 c6 c7 c8 c9 d0 d1 d2 d3 d4 d5 d6 d7 d8 d9
          obtain ⟨c0, c1, c2, c3, c4, c5, c6, c7, c8, c9⟩ := (KE.out _ E4).1.cells
          obtain ⟨d0, d1, d2, d3, d4, d5, d6, d7, d8, d9⟩ := (KE.out _ E4).2.1.cells
          go_wp2_with fail
          refine (equal_any _ a b v u (KE.out _ E4).2.2.1 (KE.out _ E4).2.2.2).mono ?_
          rintro r w5 ⟨rfl, y5⟩
          have E5 : Ext w0 w5 := E4.trans y5
          rw [HO.out.2]
          clear c0 c1 c2 c3 c4 c5 c6 c7 c8 c9 d0 d1 d2 d3 d4 d5 d6 d7 d8 d9
          obtain ⟨c0, c1, c2, c3, c4, c5, c6, c7, c8, c9⟩ := (KE.out _ E5).1.cells
          obtain ⟨d0, d1, d2, d3, d4, d5, d6, d7, d8, d9⟩ := (KE.out _ E5).2.1.cells
          go_wp2_with fail
          go_ret
          exact ⟨rfl, HW.out.2.2.trans E5⟩
        case inr.inr.inr.inl =>
          have e0 : (a.kind != 0) = true := by simpa using k0
          have e1 : (b.kind != 0) = true := by simpa using k1
          have e2 : (a.blk == b.blk) = true := by simpa using k2
          have e3 : (a.at_ == b.at_) = false := by simpa using k3
          have HO : Hid (evOver a b = M ∧ evEq a b = false) := Lib.hid (by rw [hO.out.1, hO.out.2]; simp_all)
          clear hO k0 k1 k2 k3
          go_wp2_with fail
          clear c1 c4 c5 c6 d1 d4 d5 d6
          cases M
          all_goals
            refine (first14_any _).mono ?_
            rintro r w3 ⟨rfl, y3⟩
            have E3 : Ext w0 w3 := Mod.trans x2 y3
            obtain ⟨c0, c1, c2, c3, c4, c5, c6, c7, c8, c9⟩ := (KE.out _ E3).1.cells
            obtain ⟨d0, d1, d2, d3, d4, d5, d6, d7, d8, d9⟩ := (KE.out _ E3).2.1.cells
            go_wp2_with fail
            refine (overlap_any _ a b v u (KE.out _ E3).2.2.1 (KE.out _ E3).2.2.2).mono ?_
            rintro r w4 ⟨rfl, y4⟩
            have E4 : Ext w0 w4 := E3.trans y4
            rw [HO.out.1]
            clear c0 c1 c2 c3 c4 c5 c6 c7 c8 c9 d0 d1 d2 d3 d4 d5 d6 d7 d8 d9
            obtain ⟨c0, c1, c2, c3, c4, c5, c6, c7, c8, c9⟩ := (KE.out _ E4).1.cells
            obtain ⟨d0, d1, d2, d3, d4, d5, d6, d7, d8, d9⟩ := (KE.out _ E4).2.1.cells
            go_wp2_with fail
            refine (equal_any _ a b v u (KE.out _ E4).2.2.1 (KE.out _ E4).2.2.2).mono ?_
            rintro r w5 ⟨rfl, y5⟩
            have E5 : Ext w0 w5 := E4.trans y5
            rw [HO.out.2]
            clear c0 c1 c2 c3 c4 c5 c6 c7 c8 c9 d0 d1 d2 d3 d4 d5 d6 d7 d8 d9
            obtain ⟨c0, c1, c2, c3, c4, c5, c6, c7, c8, c9⟩ := (KE.out _ E5).1.cells
            obtain ⟨d0, d1, d2, d3, d4, d5, d6, d7, d8, d9⟩ := (KE.out _ E5).2.1.cells
            go_wp2_with fail
            go_ret
            exact ⟨rfl, HW.out.2.2.trans E5⟩
        case inr.inr.inr.inr.inl =>
          have e0 : (a.kind != 0) = true := by simpa using k0
          have e1 : (b.kind != 0) = true := by simpa using k1
          have e2 : (a.blk == b.blk) = true := by simpa using k2
          have e3 : (a.at_ == b.at_) = true := by simpa using k3
          have e4 : (a.size == b.size) = false := by simpa using k4
          have HO : Hid (evOver a b = M ∧ evEq a b = false) := Lib.hid (by rw [hO.out.1, hO.out.2]; simp_all)
          clear hO k0 k1 k2 k3 k4
          go_wp2_with fail
          clear c1 c4 c5 c6 d1 d4 d5 d6
          cases M
          all_goals
            refine (first14_any _).mono ?_
            rintro r w3 ⟨rfl, y3⟩
            have E3 : Ext w0 w3 := Mod.trans x2 y3
            obtain ⟨c0, c1, c2, c3, c4, c5, c6, c7, c8, c9⟩ := (KE.out _ E3).1.cells
            obtain ⟨d0, d1, d2, d3, d4, d5, d6, d7, d8, d9⟩ := (KE.out _ E3).2.1.cells
            go_wp2_with fail
            refine (overlap_any _ a b v u (KE.out _ E3).2.2.1 (KE.out _ E3).2.2.2).mono ?_
            rintro r w4 ⟨rfl, y4⟩
            have E4 : Ext w0 w4 := E3.trans y4
            rw [HO.out.1]
            clear c0 c1 c2 c3 c4 c5 c6 c7 c8 c9 d0 d1 d2 d3 d4 d5 d6 d7 d8 d9
            obtain ⟨c0, c1, c2, c3, c4, c5, c6, c7, c8, c9⟩ := (KE.out _ E4).1.cells
            obtain ⟨d0, d1, d2, d3, d4, d5, d6, d7, d8, d9⟩ := (KE.out _ E4).2.1.cells
            go_wp2_with fail
            refine (equal_any _ a b v u (KE.out _ E4).2.2.1 (KE.out _ E4).2.2.2).mono ?_
            rintro r w5 ⟨rfl, y5⟩
            have E5 : Ext w0 w5 := E4.trans y5
            rw [HO.out.2]
            clear c0 c1 c2 c3 c4 c5 c6 c7 c8 c9 d0 d1 d2 d3 d4 d5 d6 d7 d8 d9
            obtain ⟨c0, c1, c2, c3, c4, c5, c6, c7, c8, c9⟩ := (KE.out _ E5).1.cells
            obtain ⟨d0, d1, d2, d3, d4, d5, d6, d7, d8, d9⟩ := (KE.out _ E5).2.1.cells
            go_wp2_with fail
            go_ret
            exact ⟨rfl, HW.out.2.2.trans E5⟩
        case inr.inr.inr.inr.inr =>
          have e0 : (a.kind != 0) = true := by simpa using k0
          have e1 : (b.kind != 0) = true := by simpa using k1
          have e2 : (a.blk == b.blk) = true := by simpa using k2
          have e3 : (a.at_ == b.at_) = true := by simpa using k3
          have e4 : (a.size == b.size) = true := by simpa using k4
          have HO : Hid (evOver a b = M ∧ evEq a b = true) := Lib.hid (by rw [hO.out.1, hO.out.2]; simp_all)
          clear hO k0 k1 k2 k3 k4
          go_wp2_with fail
          clear c1 c4 c5 c6 d1 d4 d5 d6
          cases M
          all_goals
            refine (first14_any _).mono ?_
            rintro r w3 ⟨rfl, y3⟩
            have E3 : Ext w0 w3 := Mod.trans x2 y3
            obtain ⟨c0, c1, c2, c3, c4, c5, c6, c7, c8, c9⟩ := (KE.out _ E3).1.cells
            obtain ⟨d0, d1, d2, d3, d4, d5, d6, d7, d8, d9⟩ := (KE.out _ E3).2.1.cells
            go_wp2_with fail
            refine (overlap_any _ a b v u (KE.out _ E3).2.2.1 (KE.out _ E3).2.2.2).mono ?_
            rintro r w4 ⟨rfl, y4⟩
            have E4 : Ext w0 w4 := E3.trans y4
            rw [HO.out.1]
            clear c0 c1 c2 c3 c4 c5 c6 c7 c8 c9 d0 d1 d2 d3 d4 d5 d6 d7 d8 d9
            obtain ⟨c0, c1, c2, c3, c4, c5, c6, c7, c8, c9⟩ := (KE.out _ E4).1.cells
            obtain ⟨d0, d1, d2, d3, d4, d5, d6, d7, d8, d9⟩ := (KE.out _ E4).2.1.cells
            go_wp2_with fail
            refine (equal_any _ a b v u (KE.out _ E4).2.2.1 (KE.out _ E4).2.2.2).mono ?_
            rintro r w5 ⟨rfl, y5⟩
            have E5 : Ext w0 w5 := E4.trans y5
            rw [HO.out.2]
            clear c0 c1 c2 c3 c4 c5 c6 c7 c8 c9 d0 d1 d2 d3 d4 d5 d6 d7 d8 d9
            obtain ⟨c0, c1, c2, c3, c4, c5, c6, c7, c8, c9⟩ := (KE.out _ E5).1.cells
            obtain ⟨d0, d1, d2, d3, d4, d5, d6, d7, d8, d9⟩ := (KE.out _ E5).2.1.cells
            go_wp2_with fail
            go_ret
            exact ⟨rfl, HW.out.2.2.trans E5⟩
  all_goals
    go_wp2_with fail
    refine (first14_any _).mono ?_
    rintro e w2 ⟨rfl, x2⟩
    go_wp2_with fail
    go_ret
    exact ⟨rfl, (HW.out.2.2.trans x1).trans x2⟩
end Go.Proofs.Ytkibdabbjbcboaa
