/-
  The contracts of model.Valid, of renlaw16's st, ld, first. No condition.
-/
import Derived.Test.YthmkcgiiakinmaaModAto
import Derived.Test.YthmkcgiiakinmaaLit
namespace Go.Ren
def st16 (a : Int) (x : UInt8) (s : Bool) : Ev := ⟨a, 2, s, true, 0, 0, 1, [], [x], []⟩
def ld16 (a : Int) (x : UInt8) (f : Int) (s : Bool) : Ev := ⟨a, 1, s, true, 0, 0, 1, [x], [], [f]⟩
def aL16 : Lg := ⟨[st16 0 1 true, st16 0 2 true, ld16 1 1 0 true], []⟩
def bL16 : Lg := ⟨[st16 0 1 false, ld16 0 0 (-1) false], []⟩
def eL16 : Lg := ⟨[], []⟩
end Go.Ren
namespace Go.Proofs.Ythmkcgiiakinmaa
open Go.Ren Go.RowKit
set_option linter.unusedVariables false
set_option maxRecDepth 100000 in
set_option maxHeartbeats 800000 in
theorem valid_any (w : World) (ve vp : Value) (V : Nat → Vs) (L : Lg) (h : LogIn w ve vp V L) (hl : L.ev.length ≤ 64) (ov : Value) (l : List Int) (hov : IntsAt w ov l) :
    Calls Try.prog 47 #[.agg #[ve, vp], ov] w (FPost (valB L l) w) := by
  have HLE := Lib.hid hl
  have HOV := Lib.hid hov
  obtain ⟨B, hB⟩ : ∃ B, B = valB L l := ⟨_, rfl⟩
  rw [← hB]
  obtain ⟨M, hM⟩ : ∃ x, x = mayL L := ⟨_, rfl⟩
  obtain ⟨C, hC⟩ : ∃ x, x = cohI L := ⟨_, rfl⟩
  obtain ⟨T, hT⟩ : ∃ x, x = tearI L := ⟨_, rfl⟩
  obtain ⟨O, hO⟩ : ∃ x, x = ordB L l := ⟨_, rfl⟩
  obtain ⟨A, hA⟩ : ∃ x, x = atoI L l := ⟨_, rfl⟩
  have HB : Hid (B = (M && decide (C = -1) && decide (T = -1) && O && decide (A = -1))) := Lib.hid (by rw [hB, hM, hC, hT, hO, hA]; rfl)
  have HM := Lib.hid hM.symm
  have HC := Lib.hid hC.symm
  have HT := Lib.hid hT.symm
  have HO := Lib.hid hO
  have HA := Lib.hid hA.symm
  clear hl hov hB hM hC hT hO hA
  have q1 := Sl.cells_eq h.row
  have q2 := Sl.cells_eq h.prow
  have s1 := Sl.run_st (P := Try.prog) h.row
  have s2 := Sl.run_st (P := Try.prog) h.prow
  obtain ⟨w0, hw0⟩ : ∃ w0, w0 = w.alloc (.cells #[ve, vp] 25) := ⟨_, rfl⟩
  obtain ⟨g0, hg0⟩ : ∃ g, g = w.heap.size := ⟨_, rfl⟩
  have x0 : Ext w w0 := by rw [hw0]; exact (Mod.refl _ _).alloc _
  have b0 : LogBox w0 g0 ve vp := ⟨by rw [hw0, hg0]; exact heap_alloc_new _ _⟩
  have HW := Lib.hid (And.intro hw0 (And.intro hg0 x0))
  have KE : Hid (∀ w', Ext w0 w' → LogIn w' ve vp V L ∧ LogBox w' g0 ve vp) := Lib.hid fun w' x => ⟨h.ext (x0.trans x), b0.ext x⟩
  have HI := Lib.hid (h.row.run_idx (P := Try.prog) IEv.und IEv.size .i64)
  have HJ := Lib.hid (h.prow.run_idx (P := Try.prog) IP.und IP.size .i64)
  have l1 := h.row.run_len (P := Try.prog) IEv.und 3
  have l2 := h.prow.run_len (P := Try.prog) IP.und 3
  obtain ⟨c0, c1⟩ := b0.cells
  clear hw0 hg0 x0 b0 h
  go_enter Try.func47, Try.ntmps47
  go_upto_region 1 with fail
  rw [← HW.out.1, ← HW.out.2.1]
  clear s1 s2
  go_wp2_with fail
  refine (may_any _ ve vp V L (KE.out _ (Mod.refl _ _)).1).mono ?_
  rintro e w1 ⟨rfl, z1⟩
  have Y1 := Lib.hid z1
  rw [HM.out]
  clear z1 c0 c1
  cases M with
  | false =>
    go_wp2_with fail
    go_ret
    exact ⟨ret_bool (by rw [HB.out]; rfl), HW.out.2.2.trans Y1.out⟩
  | true =>
    obtain ⟨c0, c1⟩ := (KE.out _ Y1.out).2.cells
    go_wp2_with fail
    refine (coherent_any _ ve vp V L (KE.out _ Y1.out).1 HLE.out).mono ?_
    rintro e w2 ⟨rfl, z2⟩
    have Y2 := Lib.hid (Mod.trans Y1.out z2)
    rw [HC.out]
    clear z2 c0 c1
    by_cases hC : C = -1
    · subst hC
      obtain ⟨c0, c1⟩ := (KE.out _ Y2.out).2.cells
      go_wp2_with fail
      refine (tearfree_any _ ve vp V L (KE.out _ Y2.out).1 HLE.out).mono ?_
      rintro e w3 ⟨rfl, z3⟩
      have Y3 := Lib.hid (Mod.trans Y2.out z3)
      rw [HT.out]
      clear z3 c0 c1
      by_cases hT : T = -1
      · subst hT
        obtain ⟨c0, c1⟩ := (KE.out _ Y3.out).2.cells
        go_wp2_with fail
        refine (ordered_any _ ve vp V L (KE.out _ Y3.out).1 HLE.out ov l (HOV.out.ext (HW.out.2.2.trans Y3.out))).mono ?_
        rintro e w4 ⟨rfl, z4⟩
        have Y4 := Lib.hid (Mod.trans Y3.out z4)
        rw [show ordI L l = (if O = true then -1 else 0) by rw [HO.out]; rfl]
        clear z4 c0 c1
        cases O with
        | false =>
          simp only [Bool.false_eq_true, if_false]
          have HF : Hid (B = false) := Lib.hid (by rw [HB.out]; simp)
          go_wp2_with fail
          go_ret
          exact ⟨ret_bool (by rw [HF.out]), HW.out.2.2.trans Y4.out⟩
        | true =>
          simp only [if_true]
          obtain ⟨c0, c1⟩ := (KE.out _ Y4.out).2.cells
          go_wp2_with fail
          refine (atomic_any _ ve vp V L (KE.out _ Y4.out).1 HLE.out ov l (HOV.out.ext (HW.out.2.2.trans Y4.out))).mono ?_
          rintro e w5 ⟨rfl, z5⟩
          have Y5 := Lib.hid (Mod.trans Y4.out z5)
          rw [HA.out]
          clear z5 c0 c1
          by_cases hA : A = -1
          · subst hA
            go_wp2_with fail
            go_ret
            exact ⟨ret_bool (by rw [HB.out]; rfl), HW.out.2.2.trans Y5.out⟩
          · have eA : (A == -1) = false := by simpa using hA
            have HF : Hid (B = false) := Lib.hid (by rw [HB.out]; simp [hA])
            clear hA
            go_wp2_with fail
            go_ret
            exact ⟨ret_bool (by rw [HF.out]), HW.out.2.2.trans Y5.out⟩
      · have eT : (T == -1) = false := by simpa using hT
        have HF : Hid (B = false) := Lib.hid (by rw [HB.out]; simp [hT])
        clear hT
        go_wp2_with fail
        go_ret
        exact ⟨ret_bool (by rw [HF.out]), HW.out.2.2.trans Y3.out⟩
    · have eC : (C == -1) = false := by simpa using hC
      have HF : Hid (B = false) := Lib.hid (by rw [HB.out]; simp [hC])
      clear hC
      go_wp2_with fail
      go_ret
      exact ⟨ret_bool (by rw [HF.out]), HW.out.2.2.trans Y2.out⟩
theorem nil_log16 (W : World) : LogIn W (.slice none 0 0) (.slice none 0 0) (fun _ => ⟨.slice none 0 0, .slice none 0 0, .slice none 0 0⟩) eL16 := ⟨(Own.nil W 45 10).sl, fun i hi => absurd hi (Nat.not_lt_zero _), (Own.nil W 48 2).sl, fun i hi => absurd hi (Nat.not_lt_zero _)⟩
def stW (g : Nat) : Vs := ⟨.slice none 0 0, .slice (some ⟨g, 0, none⟩) 1 1, .slice none 0 0⟩
def ldW (g g' : Nat) : Vs := ⟨.slice (some ⟨g, 0, none⟩) 1 1, .slice none 0 0, .slice (some ⟨g', 0, none⟩) 1 1⟩
theorem st16_at {W : World} {a : Int} (ha : I64 a) {x : UInt8} {s : Bool} {g : Nat} (h : W.heap[g]? = some (.cells #[.int .u8 (x.toNat : Int)] 5 (0, 0))) : EvAt W (st16 a x s) (stW g) :=
  ⟨litB _, built_sl (n := 1) (sz := 1) h rfl (by simp [maxLen]), litI _, ⟨ha, i64_s 2 rfl, i64_s 0 rfl, i64_s 0 rfl, i64_s 1 rfl, fun x hx => by cases hx⟩⟩
theorem ld16_at {W : World} {a : Int} (ha : I64 a) {x : UInt8} {f : Int} (hf : I64 f) {s : Bool} {g g' : Nat} (h : W.heap[g]? = some (.cells #[.int .u8 (x.toNat : Int)] 5 (0, 0))) (h' : W.heap[g']? = some (.cells #[.int .i64 f] 3 (0, 0))) : EvAt W (ld16 a x f s) (ldW g g') :=
  ⟨built_sl (n := 1) (sz := 1) h rfl (by simp [maxLen]), litB _, ⟨built_sl (n := 1) (sz := 1) h' rfl (by simp [maxLen]), fun y hy => by rw [List.mem_singleton.1 hy]; exact hf⟩, ⟨ha, i64_s 1 rfl, i64_s 0 rfl, i64_s 0 rfl, i64_s 1 rfl, fun y hy => by rw [List.mem_singleton.1 hy]; exact hf⟩⟩
def St16Post (a : Int) (x : UInt8) (s : Bool) (w : World) (e : Ending) (w' : World) : Prop := ∃ g, e = .returned (.agg #[.int .i64 a, .int .i64 2, .bool s, .bool true, .int .i64 0, .int .i64 0, .int .i64 1, .slice none 0 0, .slice (some ⟨g, 0, none⟩) 1 1, .slice none 0 0]) ∧ w'.heap[g]? = some (.cells #[.int .u8 (x.toNat : Int)] 5 (0, 0)) ∧ Ext w w'
def Ld16Post (a : Int) (x : UInt8) (f : Int) (s : Bool) (w : World) (e : Ending) (w' : World) : Prop := ∃ g g', e = .returned (.agg #[.int .i64 a, .int .i64 1, .bool s, .bool true, .int .i64 0, .int .i64 0, .int .i64 1, .slice (some ⟨g, 0, none⟩) 1 1, .slice none 0 0, .slice (some ⟨g', 0, none⟩) 1 1]) ∧ w'.heap[g]? = some (.cells #[.int .u8 (x.toNat : Int)] 5 (0, 0)) ∧ w'.heap[g']? = some (.cells #[.int .i64 f] 3 (0, 0)) ∧ Ext w w'
set_option maxRecDepth 100000 in
theorem st16_any (w : World) (a : Int) (x : UInt8) (s : Bool) : Calls Try.prog 52 #[.int .i64 a, .int .u8 (x.toNat : Int), .bool s] w (St16Post a x s w) := by
  go_enter Try.func52, Try.ntmps52
  go_wp2_with fail
  obtain ⟨g, hg⟩ : ∃ g, g = w.heap.size := ⟨_, rfl⟩
  rw [← hg]
  obtain ⟨W1, hW1⟩ : ∃ W1, W1 = (w.alloc (.cells #[.int .i64 a, .int .i64 2, .bool s, .bool true, .int .i64 0, .int .i64 0, .int .i64 1, .slice none 0 0, .slice (some ⟨g + 1, 0, none⟩) 1 1, .slice none 0 0] 45)).alloc (.cells #[.int .u8 (x.toNat : Int)] 5) := ⟨_, rfl⟩
  have x1 : Ext w W1 := by rw [hW1]; exact ((Mod.refl _ _).alloc _).alloc _
  have h0 : W1.heap[g]? = some (.cells #[.int .i64 a, .int .i64 2, .bool s, .bool true, .int .i64 0, .int .i64 0, .int .i64 1, .slice none 0 0, .slice (some ⟨g + 1, 0, none⟩) 1 1, .slice none 0 0] 45 (0, 0)) := by rw [hW1, hg]; exact heap_alloc2_old _ _ _
  have h1 : W1.heap[g + 1]? = some (.cells #[.int .u8 (x.toNat : Int)] 5 (0, 0)) := by rw [hW1, hg]; exact heap_alloc2_new _ _ _
  rw [← hW1]
  clear hW1
  refine bodyPost_ret (results_cell_row rfl _ _ g 45 #[.int .i64 a, .int .i64 2, .bool s, .bool true, .int .i64 0, .int .i64 0, .int .i64 1, .slice none 0 0, .slice (some ⟨g + 1, 0, none⟩) 1 1, .slice none 0 0] (0, 0) _ rfl h0 Try.underlying45 rfl (by kernel_rfl)) rfl ?_
  exact ⟨g + 1, rfl, h1, x1⟩
set_option maxRecDepth 100000 in
theorem ld16_any (w : World) (a : Int) (x : UInt8) (f : Int) (s : Bool) : Calls Try.prog 53 #[.int .i64 a, .int .u8 (x.toNat : Int), .int .i64 f, .bool s] w (Ld16Post a x f s w) := by
  go_enter Try.func53, Try.ntmps53
  go_wp2_with fail
  obtain ⟨g, hg⟩ : ∃ g, g = w.heap.size := ⟨_, rfl⟩
  rw [← hg]
  obtain ⟨W1, hW1⟩ : ∃ W1, W1 = ((w.alloc (.cells #[.int .i64 a, .int .i64 1, .bool s, .bool true, .int .i64 0, .int .i64 0, .int .i64 1, .slice (some ⟨g + 1, 0, none⟩) 1 1, .slice none 0 0, .slice (some ⟨g + 1 + 1, 0, none⟩) 1 1] 45)).alloc (.cells #[.int .u8 (x.toNat : Int)] 5)).alloc (.cells #[.int .i64 f] 3) := ⟨_, rfl⟩
  have x1 : Ext w W1 := by rw [hW1]; exact (((Mod.refl _ _).alloc _).alloc _).alloc _
  have h0 : W1.heap[g]? = some (.cells #[.int .i64 a, .int .i64 1, .bool s, .bool true, .int .i64 0, .int .i64 0, .int .i64 1, .slice (some ⟨g + 1, 0, none⟩) 1 1, .slice none 0 0, .slice (some ⟨g + 1 + 1, 0, none⟩) 1 1] 45 (0, 0)) := by rw [hW1, hg]; simp only [heap_alloc_if, World.size_alloc]; repeat (first | rfl | rw [if_pos (by omega)] | rw [if_neg (by omega)])
  have h1 : W1.heap[g + 1]? = some (.cells #[.int .u8 (x.toNat : Int)] 5 (0, 0)) := by rw [hW1, hg]; simp only [heap_alloc_if, World.size_alloc]; repeat (first | rfl | rw [if_pos (by omega)] | rw [if_neg (by omega)])
  have h2 : W1.heap[g + 1 + 1]? = some (.cells #[.int .i64 f] 3 (0, 0)) := by rw [hW1, hg]; simp only [heap_alloc_if, World.size_alloc]; repeat (first | rfl | rw [if_pos (by omega)] | rw [if_neg (by omega)])
  rw [← hW1]
  clear hW1
  refine bodyPost_ret (results_cell_row rfl _ _ g 45 #[.int .i64 a, .int .i64 1, .bool s, .bool true, .int .i64 0, .int .i64 0, .int .i64 1, .slice (some ⟨g + 1, 0, none⟩) 1 1, .slice none 0 0, .slice (some ⟨g + 1 + 1, 0, none⟩) 1 1] (0, 0) _ rfl h0 Try.underlying45 rfl (by kernel_rfl)) rfl ?_
  exact ⟨g + 1, g + 1 + 1, rfl, h1, h2, x1⟩
end Go.Proofs.Ythmkcgiiakinmaa
