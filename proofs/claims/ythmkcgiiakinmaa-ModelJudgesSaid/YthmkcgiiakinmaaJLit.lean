/-
  Literal logs: what a contract of a function that returns one says. No condition. The contracts of model.Valid, of renlaw16's st, ld, first. No condition. The contract of renlaw16.first. No condition.
-/
import Derived.Test.YthmkcgiiakinmaaJEvReads
import Derived.Test.YthmkcgiiakinmaaJModAto
namespace Go.Proofs.Ythmkcgiiakinmaa
open Go.Ren Go.RowKit
set_option linter.unusedVariables false
def LitPost (L : Lg) (w : World) (e : Ending) (w' : World) : Prop := ∃ ve V, e = .returned (.agg #[ve, .slice none 0 0]) ∧ LogIn w' ve (.slice none 0 0) V L ∧ Ext w w'
theorem litB (W : World) : BytesAt W (.slice none 0 0) [] := (Own.nil W 5 1).sl
theorem litI (W : World) : IntsAt W (.slice none 0 0) [] := ⟨(Own.nil W 3 1).sl, fun x hx => by cases hx⟩
theorem i64_s (n : Int) (h : (decide (-1000 ≤ n) && decide (n ≤ 1000)) = true) : I64 n := by simp at h; unfold I64; omega
theorem lit64 {l : List Int} (h : l.all (fun x => decide (-9223372036854775808 ≤ x) && decide (x ≤ 9223372036854775807)) = true) : ∀ x ∈ l, I64 x := by
  intro x hx
  have := List.all_eq_true.1 h x hx
  simp at this; exact this
theorem log2_in {w : World} {a b : Ev} {v u : Vs} (ha : EvAt w a v) (hb : EvAt w b u) {g : Nat} (h : w.heap[g]? = some (.cells #[.int .i64 a.ag, .int .i64 a.kind, .bool a.seq, .bool a.nt, .int .i64 a.blk, .int .i64 a.at_, .int .i64 a.size, v.r, v.w, v.f, .int .i64 b.ag, .int .i64 b.kind, .bool b.seq, .bool b.nt, .int .i64 b.blk, .int .i64 b.at_, .int .i64 b.size, u.r, u.w, u.f] 45 (0, 0))) :
    LogIn w (.slice (some ⟨g, 0, none⟩) 2 2) (.slice none 0 0) (fun i => if i = 0 then v else u) ⟨[a, b], []⟩ := by
  have hs := built_sl (n := 2) (sz := 10) h rfl (by simp [maxLen])
  have e : (flat 10 2 fun i j => evcell (evn [a, b] i) (if i = 0 then v else u) j) = [.int .i64 a.ag, .int .i64 a.kind, .bool a.seq, .bool a.nt, .int .i64 a.blk, .int .i64 a.at_, .int .i64 a.size, v.r, v.w, v.f, .int .i64 b.ag, .int .i64 b.kind, .bool b.seq, .bool b.nt, .int .i64 b.blk, .int .i64 b.at_, .int .i64 b.size, u.r, u.w, u.f] := by
    simp [flat, List.range, List.range.loop, evcell, evn]
  refine ⟨by show Sl w _ 10 2 (flat 10 2 _); rw [e]; exact hs, fun i hi => ?_, (Own.nil _ 48 2).sl, fun i hi => absurd hi (Nat.not_lt_zero _)⟩
  match i, hi with
  | 0, _ => exact ha
  | 1, _ => exact hb
end Go.Proofs.Ythmkcgiiakinmaa
namespace Go.Ren
def st16 (a : Int) (x : UInt8) (s : Bool) : Ev := ⟨a, 2, s, true, 0, 0, 1, [], [x], []⟩
def ld16 (a : Int) (x : UInt8) (f : Int) (s : Bool) : Ev := ⟨a, 1, s, true, 0, 0, 1, [x], [], [f]⟩
def aL16 : Lg := ⟨[st16 0 1 true, st16 0 2 true, ld16 1 1 0 true], []⟩
def bL16 : Lg := ⟨[st16 0 1 false, ld16 0 0 (-1) false], []⟩
def eL16 : Lg := ⟨[], []⟩
end Go.Ren
namespace Go.Proofs.Ythmkcgiiakinmaa
open Go.Ren Go.RowKit
set_option linter.unusedVariables false
set_option maxRecDepth 100000 in
set_option maxHeartbeats 800000 in
theorem valid_any (w : World) (ve vp : Value) (V : Nat → Vs) (L : Lg) (h : LogIn w ve vp V L) (hl : L.ev.length ≤ 64) (ov : Value) (l : List Int) (hov : IntsAt w ov l) :
    Calls Try.prog 47 #[.agg #[ve, vp], ov] w (FPost (valB L l) w) := by
  have HLE := Lib.hid hl
  have HOV := Lib.hid hov
  obtain ⟨B, hB⟩ : ∃ B, B = valB L l := ⟨_, rfl⟩
  rw [← hB]
  obtain ⟨M, hM⟩ : ∃ x, x = mayL L := ⟨_, rfl⟩
  obtain ⟨C, hC⟩ : ∃ x, x = cohI L := ⟨_, rfl⟩
  obtain ⟨T, hT⟩ : ∃ x, x = tearI L := ⟨_, rfl⟩
  obtain ⟨O, hO⟩ : ∃ x, x = ordB L l := ⟨_, rfl⟩
  obtain ⟨A, hA⟩ : ∃ x, x = atoI L l := ⟨_, rfl⟩
  have HB : Hid (B = (M && decide (C = -1) && decide (T = -1) && O && decide (A = -1))) := Lib.hid (by rw [hB, hM, hC, hT, hO, hA]; rfl)
  have HM := Lib.hid hM.symm
  have HC := Lib.hid hC.symm
  have HT := Lib.hid hT.symm
  have HO := Lib.hid hO
  have HA := Lib.hid hA.symm
  clear hl hov hB hM hC hT hO hA
  have q1 := Sl.cells_eq h.row
  have q2 := Sl.cells_eq h.prow
  have s1 := Sl.run_st (P := Try.prog) h.row
  have s2 := Sl.run_st (P := Try.prog) h.prow
  obtain ⟨w0, hw0⟩ : ∃ w0, w0 = w.alloc (.cells #[ve, vp] 25) := ⟨_, rfl⟩
  obtain ⟨g0, hg0⟩ : ∃ g, g = w.heap.size := ⟨_, rfl⟩
  have x0 : Ext w w0 := by rw [hw0]; exact (Mod.refl _ _).alloc _
  have b0 : LogBox w0 g0 ve vp := ⟨by rw [hw0, hg0]; exact heap_alloc_new _ _⟩
  have HW := Lib.hid (And.intro hw0 (And.intro hg0 x0))
  have KE : Hid (∀ w', Ext w0 w' → LogIn w' ve vp V L ∧ LogBox w' g0 ve vp) := Lib.hid fun w' x => ⟨h.ext (x0.trans x), b0.ext x⟩
  have HI := Lib.hid (h.row.run_idx (P := Try.prog) IEv.und IEv.size .i64)
  have HJ := Lib.hid (h.prow.run_idx (P := Try.prog) IP.und IP.size .i64)
  have l1 := h.row.run_len (P := Try.prog) IEv.und 3
  have l2 := h.prow.run_len (P := Try.prog) IP.und 3
  obtain ⟨c0, c1⟩ := b0.cells
  clear hw0 hg0 x0 b0 h
  go_enter Try.func47, Try.ntmps47
  go_upto_region 1 with fail
  rw [← HW.out.1, ← HW.out.2.1]
  clear s1 s2
  go_wp2_with fail
  refine (may_any _ ve vp V L (KE.out _ (Mod.refl _ _)).1).mono ?_
  rintro e w1 ⟨rfl, z1⟩
  have Y1 := Lib.hid z1
  rw [HM.out]
  clear z1 c0 c1
  cases M with
  | false =>
    go_wp2_with fail
    go_ret
    exact ⟨ret_bool (by rw [HB.out]; rfl), HW.out.2.2.trans Y1.out⟩
  | true =>
    obtain ⟨c0, c1⟩ := (KE.out _ Y1.out).2.cells
    go_wp2_with fail
    refine (coherent_any _ ve vp V L (KE.out _ Y1.out).1 HLE.out).mono ?_
    rintro e w2 ⟨rfl, z2⟩
    have Y2 := Lib.hid (Mod.trans Y1.out z2)
    rw [HC.out]
    clear z2 c0 c1
    by_cases hC : C = -1
    · subst hC
      obtain ⟨c0, c1⟩ := (KE.out _ Y2.out).2.cells
      go_wp2_with fail
      refine (tearfree_any _ ve vp V L (KE.out _ Y2.out).1 HLE.out).mono ?_
      rintro e w3 ⟨rfl, z3⟩
      have Y3 := Lib.hid (Mod.trans Y2.out z3)
      rw [HT.out]
      clear z3 c0 c1
      by_cases hT : T = -1
      · subst hT
        obtain ⟨c0, c1⟩ := (KE.out _ Y3.out).2.cells
        go_wp2_with fail
        refine (ordered_any _ ve vp V L (KE.out _ Y3.out).1 HLE.out ov l (HOV.out.ext (HW.out.2.2.trans Y3.out))).mono ?_
        rintro e w4 ⟨rfl, z4⟩
        have Y4 := Lib.hid (Mod.trans Y3.out z4)
        rw [show ordI L l = (if O = true then -1 else 0) by rw [HO.out]; rfl]
        clear z4 c0 c1
        cases O with
        | false =>
          simp only [Bool.false_eq_true, if_false]
          have HF : Hid (B = false) := Lib.hid (by rw [HB.out]; simp)
          go_wp2_with fail
          go_ret
          exact ⟨ret_bool (by rw [HF.out]), HW.out.2.2.trans Y4.out⟩
        | true =>
          simp only [if_true]
          obtain ⟨c0, c1⟩ := (KE.out _ Y4.out).2.cells
          go_wp2_with fail
          refine (atomic_any _ ve vp V L (KE.out _ Y4.out).1 HLE.out ov l (HOV.out.ext (HW.out.2.2.trans Y4.out))).mono ?_
          rintro e w5 ⟨rfl, z5⟩
          have Y5 := Lib.hid (Mod.trans Y4.out z5)
          rw [HA.out]
          clear z5 c0 c1
          by_cases hA : A = -1
          · subst hA
            go_wp2_with fail
            go_ret
            exact ⟨ret_bool (by rw [HB.out]; rfl), HW.out.2.2.trans Y5.out⟩
          · have eA : (A == -1) = false := by simpa using hA
            have HF : Hid (B = false) := Lib.hid (by rw [HB.out]; simp [hA])
            clear hA
            go_wp2_with fail
            go_ret
            exact ⟨ret_bool (by rw [HF.out]), HW.out.2.2.trans Y5.out⟩
      · have eT : (T == -1) = false := by simpa using hT
        have HF : Hid (B = false) := Lib.hid (by rw [HB.out]; simp [hT])
        clear hT
        go_wp2_with fail
        go_ret
        exact ⟨ret_bool (by rw [HF.out]), HW.out.2.2.trans Y3.out⟩
    · have eC : (C == -1) = false := by simpa using hC
      have HF : Hid (B = false) := Lib.hid (by rw [HB.out]; simp [hC])
      clear hC
      go_wp2_with fail
      go_ret
      exact ⟨ret_bool (by rw [HF.out]), HW.out.2.2.trans Y2.out⟩
theorem nil_log16 (W : World) : LogIn W (.slice none 0 0) (.slice none 0 0) (fun _ => ⟨.slice none 0 0, .slice none 0 0, .slice none 0 0⟩) eL16 := ⟨(Own.nil W 45 10).sl, fun i hi => absurd hi (Nat.not_lt_zero _), (Own.nil W 48 2).sl, fun i hi => absurd hi (Nat.not_lt_zero _)⟩
def stW (g : Nat) : Vs := ⟨.slice none 0 0, .slice (some ⟨g, 0, none⟩) 1 1, .slice none 0 0⟩
def ldW (g g' : Nat) : Vs := ⟨.slice (some ⟨g, 0, none⟩) 1 1, .slice none 0 0, .slice (some ⟨g', 0, none⟩) 1 1⟩
theorem st16_at {W : World} {a : Int} (ha : I64 a) {x : UInt8} {s : Bool} {g : Nat} (h : W.heap[g]? = some (.cells #[.int .u8 (x.toNat : Int)] 5 (0, 0))) : EvAt W (st16 a x s) (stW g) :=
  ⟨litB _, built_sl (n := 1) (sz := 1) h rfl (by simp [maxLen]), litI _, ⟨ha, i64_s 2 rfl, i64_s 0 rfl, i64_s 0 rfl, i64_s 1 rfl, fun x hx => by cases hx⟩⟩
theorem ld16_at {W : World} {a : Int} (ha : I64 a) {x : UInt8} {f : Int} (hf : I64 f) {s : Bool} {g g' : Nat} (h : W.heap[g]? = some (.cells #[.int .u8 (x.toNat : Int)] 5 (0, 0))) (h' : W.heap[g']? = some (.cells #[.int .i64 f] 3 (0, 0))) : EvAt W (ld16 a x f s) (ldW g g') :=
  ⟨built_sl (n := 1) (sz := 1) h rfl (by simp [maxLen]), litB _, ⟨built_sl (n := 1) (sz := 1) h' rfl (by simp [maxLen]), fun y hy => by rw [List.mem_singleton.1 hy]; exact hf⟩, ⟨ha, i64_s 1 rfl, i64_s 0 rfl, i64_s 0 rfl, i64_s 1 rfl, fun y hy => by rw [List.mem_singleton.1 hy]; exact hf⟩⟩
def St16Post (a : Int) (x : UInt8) (s : Bool) (w : World) (e : Ending) (w' : World) : Prop := ∃ g, e = .returned (.agg #[.int .i64 a, .int .i64 2, .bool s, .bool true, .int .i64 0, .int .i64 0, .int .i64 1, .slice none 0 0, .slice (some ⟨g, 0, none⟩) 1 1, .slice none 0 0]) ∧ w'.heap[g]? = some (.cells #[.int .u8 (x.toNat : Int)] 5 (0, 0)) ∧ Ext w w'
def Ld16Post (a : Int) (x : UInt8) (f : Int) (s : Bool) (w : World) (e : Ending) (w' : World) : Prop := ∃ g g', e = .returned (.agg #[.int .i64 a, .int .i64 1, .bool s, .bool true, .int .i64 0, .int .i64 0, .int .i64 1, .slice (some ⟨g, 0, none⟩) 1 1, .slice none 0 0, .slice (some ⟨g', 0, none⟩) 1 1]) ∧ w'.heap[g]? = some (.cells #[.int .u8 (x.toNat : Int)] 5 (0, 0)) ∧ w'.heap[g']? = some (.cells #[.int .i64 f] 3 (0, 0)) ∧ Ext w w'
set_option maxRecDepth 100000 in
theorem st16_any (w : World) (a : Int) (x : UInt8) (s : Bool) : Calls Try.prog 52 #[.int .i64 a, .int .u8 (x.toNat : Int), .bool s] w (St16Post a x s w) := by
  go_enter Try.func52, Try.ntmps52
  go_wp2_with fail
  obtain ⟨g, hg⟩ : ∃ g, g = w.heap.size := ⟨_, rfl⟩
  rw [← hg]
  obtain ⟨W1, hW1⟩ : ∃ W1, W1 = (w.alloc (.cells #[.int .i64 a, .int .i64 2, .bool s, .bool true, .int .i64 0, .int .i64 0, .int .i64 1, .slice none 0 0, .slice (some ⟨g + 1, 0, none⟩) 1 1, .slice none 0 0] 45)).alloc (.cells #[.int .u8 (x.toNat : Int)] 5) := ⟨_, rfl⟩
  have x1 : Ext w W1 := by rw [hW1]; exact ((Mod.refl _ _).alloc _).alloc _
  have h0 : W1.heap[g]? = some (.cells #[.int .i64 a, .int .i64 2, .bool s, .bool true, .int .i64 0, .int .i64 0, .int .i64 1, .slice none 0 0, .slice (some ⟨g + 1, 0, none⟩) 1 1, .slice none 0 0] 45 (0, 0)) := by rw [hW1, hg]; exact heap_alloc2_old _ _ _
  have h1 : W1.heap[g + 1]? = some (.cells #[.int .u8 (x.toNat : Int)] 5 (0, 0)) := by rw [hW1, hg]; exact heap_alloc2_new _ _ _
  rw [← hW1]
  clear hW1
  refine bodyPost_ret (results_cell_row rfl _ _ g 45 #[.int .i64 a, .int .i64 2, .bool s, .bool true, .int .i64 0, .int .i64 0, .int .i64 1, .slice none 0 0, .slice (some ⟨g + 1, 0, none⟩) 1 1, .slice none 0 0] (0, 0) _ rfl h0 Try.underlying45 rfl (by kernel_rfl)) rfl ?_
  exact ⟨g + 1, rfl, h1, x1⟩
set_option maxRecDepth 100000 in
theorem ld16_any (w : World) (a : Int) (x : UInt8) (f : Int) (s : Bool) : Calls Try.prog 53 #[.int .i64 a, .int .u8 (x.toNat : Int), .int .i64 f, .bool s] w (Ld16Post a x f s w) := by
  go_enter Try.func53, Try.ntmps53
  go_wp2_with fail
  obtain ⟨g, hg⟩ : ∃ g, g = w.heap.size := ⟨_, rfl⟩
  rw [← hg]
  obtain ⟨W1, hW1⟩ : ∃ W1, W1 = ((w.alloc (.cells #[.int .i64 a, .int .i64 1, .bool s, .bool true, .int .i64 0, .int .i64 0, .int .i64 1, .slice (some ⟨g + 1, 0, none⟩) 1 1, .slice none 0 0, .slice (some ⟨g + 1 + 1, 0, none⟩) 1 1] 45)).alloc (.cells #[.int .u8 (x.toNat : Int)] 5)).alloc (.cells #[.int .i64 f] 3) := ⟨_, rfl⟩
  have x1 : Ext w W1 := by rw [hW1]; exact (((Mod.refl _ _).alloc _).alloc _).alloc _
  have h0 : W1.heap[g]? = some (.cells #[.int .i64 a, .int .i64 1, .bool s, .bool true, .int .i64 0, .int .i64 0, .int .i64 1, .slice (some ⟨g + 1, 0, none⟩) 1 1, .slice none 0 0, .slice (some ⟨g + 1 + 1, 0, none⟩) 1 1] 45 (0, 0)) := by rw [hW1, hg]; simp only [heap_alloc_if, World.size_alloc]; repeat (first | rfl | rw [if_pos (by omega)] | rw [if_neg (by omega)])
  have h1 : W1.heap[g + 1]? = some (.cells #[.int .u8 (x.toNat : Int)] 5 (0, 0)) := by rw [hW1, hg]; simp only [heap_alloc_if, World.size_alloc]; repeat (first | rfl | rw [if_pos (by omega)] | rw [if_neg (by omega)])
  have h2 : W1.heap[g + 1 + 1]? = some (.cells #[.int .i64 f] 3 (0, 0)) := by rw [hW1, hg]; simp only [heap_alloc_if, World.size_alloc]; repeat (first | rfl | rw [if_pos (by omega)] | rw [if_neg (by omega)])
  rw [← hW1]
  clear hW1
  refine bodyPost_ret (results_cell_row rfl _ _ g 45 #[.int .i64 a, .int .i64 1, .bool s, .bool true, .int .i64 0, .int .i64 0, .int .i64 1, .slice (some ⟨g + 1, 0, none⟩) 1 1, .slice none 0 0, .slice (some ⟨g + 1 + 1, 0, none⟩) 1 1] (0, 0) _ rfl h0 Try.underlying45 rfl (by kernel_rfl)) rfl ?_
  exact ⟨g + 1, g + 1 + 1, rfl, h1, h2, x1⟩
end Go.Proofs.Ythmkcgiiakinmaa
namespace Go.Proofs.Ythmkcgiiakinmaa
open Go.Ren Go.RowKit
set_option linter.unusedVariables false
theorem log3_in {w : World} {a b c : Ev} {v u t : Vs} (ha : EvAt w a v) (hb : EvAt w b u) (hc : EvAt w c t) {g : Nat} (h : w.heap[g]? = some (.cells #[.int .i64 a.ag, .int .i64 a.kind, .bool a.seq, .bool a.nt, .int .i64 a.blk, .int .i64 a.at_, .int .i64 a.size, v.r, v.w, v.f, .int .i64 b.ag, .int .i64 b.kind, .bool b.seq, .bool b.nt, .int .i64 b.blk, .int .i64 b.at_, .int .i64 b.size, u.r, u.w, u.f, .int .i64 c.ag, .int .i64 c.kind, .bool c.seq, .bool c.nt, .int .i64 c.blk, .int .i64 c.at_, .int .i64 c.size, t.r, t.w, t.f] 45 (0, 0))) :
    LogIn w (.slice (some ⟨g, 0, none⟩) 3 3) (.slice none 0 0) (fun i => if i = 0 then v else if i = 1 then u else t) ⟨[a, b, c], []⟩ := by
  have hs := built_sl (n := 3) (sz := 10) h rfl (by simp [maxLen])
  have e : (flat 10 3 fun i j => evcell (evn [a, b, c] i) (if i = 0 then v else if i = 1 then u else t) j) = [.int .i64 a.ag, .int .i64 a.kind, .bool a.seq, .bool a.nt, .int .i64 a.blk, .int .i64 a.at_, .int .i64 a.size, v.r, v.w, v.f, .int .i64 b.ag, .int .i64 b.kind, .bool b.seq, .bool b.nt, .int .i64 b.blk, .int .i64 b.at_, .int .i64 b.size, u.r, u.w, u.f, .int .i64 c.ag, .int .i64 c.kind, .bool c.seq, .bool c.nt, .int .i64 c.blk, .int .i64 c.at_, .int .i64 c.size, t.r, t.w, t.f] := by
    simp [flat, List.range, List.range.loop, evcell, evn]
  refine ⟨by show Sl w _ 10 3 (flat 10 3 _); rw [e]; exact hs, fun i hi => ?_, (Own.nil _ 48 2).sl, fun i hi => absurd hi (Nat.not_lt_zero _)⟩
  match i, hi with
  | 0, _ => exact ha
  | 1, _ => exact hb
  | 2, _ => exact hc
set_option maxRecDepth 100000 in
set_option maxHeartbeats 800000 in
theorem first16_any (w : World) : Calls Try.prog 37 #[] w (FPost true w) := by
  go_enter Try.func37, Try.ntmps37
  go_wp2_with fail
  refine (st16_any _ 0 1 true).mono ?_
  rintro e w1 ⟨g1, rfl, h1, x1⟩
  have H1 := Lib.hid (And.intro h1 x1)
  clear h1 x1
  go_wp2_with fail
  refine (st16_any _ 0 2 true).mono ?_
  rintro e w2 ⟨g2, rfl, h2, x2⟩
  have H2 := Lib.hid (And.intro h2 x2)
  clear h2 x2
  go_wp2_with fail
  refine (ld16_any _ 1 1 0 true).mono ?_
  rintro e w3 ⟨g3, g4, rfl, h3, h4, x3⟩
  have H3 := Lib.hid (And.intro h3 (And.intro h4 x3))
  clear h3 h4 x3
  go_upto_region 2 with fail
  obtain ⟨ga, hga⟩ : ∃ g, g = w3.heap.size := ⟨_, rfl⟩
  rw [← hga]
  obtain ⟨wa, hwa⟩ : ∃ W, W = (w3.alloc (.cells #[.int .i64 0, .int .i64 2, .bool true, .bool true, .int .i64 0, .int .i64 0, .int .i64 1, .slice none 0 0, .slice (some ⟨g1, 0, none⟩) 1 1, .slice none 0 0, .int .i64 0, .int .i64 2, .bool true, .bool true, .int .i64 0, .int .i64 0, .int .i64 1, .slice none 0 0, .slice (some ⟨g2, 0, none⟩) 1 1, .slice none 0 0, .int .i64 1, .int .i64 1, .bool true, .bool true, .int .i64 0, .int .i64 0, .int .i64 1, .slice (some ⟨g3, 0, none⟩) 1 1, .slice none 0 0, .slice (some ⟨g4, 0, none⟩) 1 1] 45)).alloc (.cells #[.slice (some ⟨ga, 0, none⟩) 3 3, .slice none 0 0] 25) := ⟨_, rfl⟩
  have xa : Ext w3 wa := by rw [hwa]; exact ((Mod.refl _ _).alloc _).alloc _
  have ha0 : wa.heap[ga]? = some (.cells #[.int .i64 0, .int .i64 2, .bool true, .bool true, .int .i64 0, .int .i64 0, .int .i64 1, .slice none 0 0, .slice (some ⟨g1, 0, none⟩) 1 1, .slice none 0 0, .int .i64 0, .int .i64 2, .bool true, .bool true, .int .i64 0, .int .i64 0, .int .i64 1, .slice none 0 0, .slice (some ⟨g2, 0, none⟩) 1 1, .slice none 0 0, .int .i64 1, .int .i64 1, .bool true, .bool true, .int .i64 0, .int .i64 0, .int .i64 1, .slice (some ⟨g3, 0, none⟩) 1 1, .slice none 0 0, .slice (some ⟨g4, 0, none⟩) 1 1] 45 (0, 0)) := by rw [hwa, hga]; exact heap_alloc2_old _ _ _
  have ha1 : wa.heap[ga + 1]? = some (.cells #[.slice (some ⟨ga, 0, none⟩) 3 3, .slice none 0 0] 25 (0, 0)) := by rw [hwa, hga]; exact heap_alloc2_new _ _ _
  have LA : LogIn wa (.slice (some ⟨ga, 0, none⟩) 3 3) (.slice none 0 0) (fun i => if i = 0 then stW g1 else if i = 1 then stW g2 else ldW g3 g4) aL16 :=
    log3_in ((st16_at (i64_s 0 rfl) H1.out.1).ext (H2.out.2.trans (H3.out.2.2.trans xa))) ((st16_at (i64_s 0 rfl) H2.out.1).ext (H3.out.2.2.trans xa)) ((ld16_at (i64_s 1 rfl) (i64_s 0 rfl) H3.out.1 H3.out.2.1).ext xa) ha0
  rw [← hwa]
  have HA := Lib.hid (And.intro xa (And.intro ha1 LA))
  clear hwa xa ha0 ha1 LA hga
  go_wp2_with fail
  refine (st16_any _ 0 1 false).mono ?_
  rintro e w4 ⟨g5, rfl, h5, x4⟩
  have H4 := Lib.hid (And.intro h5 x4)
  clear h5 x4
  go_wp2_with fail
  refine (ld16_any _ 0 0 (-1) false).mono ?_
  rintro e w5 ⟨g6, g7, rfl, h6, h7, x5⟩
  have H5 := Lib.hid (And.intro h6 (And.intro h7 x5))
  clear h6 h7 x5
  go_upto_region 3 with fail
  obtain ⟨gb, hgb⟩ : ∃ g, g = w5.heap.size := ⟨_, rfl⟩
  rw [← hgb]
  obtain ⟨wb, hwb⟩ : ∃ W, W = (w5.alloc (.cells #[.int .i64 0, .int .i64 2, .bool false, .bool true, .int .i64 0, .int .i64 0, .int .i64 1, .slice none 0 0, .slice (some ⟨g5, 0, none⟩) 1 1, .slice none 0 0, .int .i64 0, .int .i64 1, .bool false, .bool true, .int .i64 0, .int .i64 0, .int .i64 1, .slice (some ⟨g6, 0, none⟩) 1 1, .slice none 0 0, .slice (some ⟨g7, 0, none⟩) 1 1] 45)).alloc (.cells #[.slice (some ⟨gb, 0, none⟩) 2 2, .slice none 0 0] 25) := ⟨_, rfl⟩
  have xb : Ext w5 wb := by rw [hwb]; exact ((Mod.refl _ _).alloc _).alloc _
  have hb0 : wb.heap[gb]? = some (.cells #[.int .i64 0, .int .i64 2, .bool false, .bool true, .int .i64 0, .int .i64 0, .int .i64 1, .slice none 0 0, .slice (some ⟨g5, 0, none⟩) 1 1, .slice none 0 0, .int .i64 0, .int .i64 1, .bool false, .bool true, .int .i64 0, .int .i64 0, .int .i64 1, .slice (some ⟨g6, 0, none⟩) 1 1, .slice none 0 0, .slice (some ⟨g7, 0, none⟩) 1 1] 45 (0, 0)) := by rw [hwb, hgb]; exact heap_alloc2_old _ _ _
  have hb1 : wb.heap[gb + 1]? = some (.cells #[.slice (some ⟨gb, 0, none⟩) 2 2, .slice none 0 0] 25 (0, 0)) := by rw [hwb, hgb]; exact heap_alloc2_new _ _ _
  have LB : LogIn wb (.slice (some ⟨gb, 0, none⟩) 2 2) (.slice none 0 0) (fun i => if i = 0 then stW g5 else ldW g6 g7) bL16 :=
    log2_in ((st16_at (i64_s 0 rfl) H4.out.1).ext (H5.out.2.2.trans xb)) ((ld16_at (i64_s 0 rfl) (i64_s (-1) rfl) H5.out.1 H5.out.2.1).ext xb) hb0
  have XAB : Ext wa wb := H4.out.2.trans (H5.out.2.2.trans xb)
  have ba : LogBox wb (ga + 1) (.slice (some ⟨ga, 0, none⟩) 3 3) (.slice none 0 0) := ⟨Ext.blk XAB HA.out.2.1⟩
  have bb : LogBox wb (gb + 1) (.slice (some ⟨gb, 0, none⟩) 2 2) (.slice none 0 0) := ⟨hb1⟩
  have LA := HA.out.2.2.ext XAB
  rw [← hwb]
  have KAB := Lib.hid (fun w' (x : Ext wb w') => And.intro (LA.ext x) (And.intro (ba.ext x) (And.intro (LB.ext x) (bb.ext x))))
  have HX : Hid (Ext w wb) := Lib.hid (H1.out.2.trans (H2.out.2.trans (H3.out.2.2.trans (HA.out.1.trans XAB))))
  clear hwb xb hb0 hb1 LB ba bb LA hgb XAB
  refine wp_region_plan [(0, true), (1, true), (2, false), (3, false), (4, true), (5, true), (6, true), (7, false), (8, true), (9, true), (10, true), (11, true), (12, true), (13, false), (14, false), (15, true), (16, true), (17, true), (18, true), (19, false), (20, true), (21, true), (22, true), (23, true), (24, false), (25, true), (26, true), (27, true), (28, true), (29, false), (30, true), (31, true)] (fun w' => w'.cell? ⟨ga + 1, 0, none⟩ = some (.slice (some ⟨ga, 0, none⟩) 3 3) ∧ w'.cell? ⟨ga + 1, 1, none⟩ = some (.slice none 0 0) ∧ w'.cell? ⟨gb + 1, 0, none⟩ = some (.slice (some ⟨gb, 0, none⟩) 2 2) ∧ w'.cell? ⟨gb + 1, 1, none⟩ = some (.slice none 0 0)) (by kernel_rfl) (by kernel_rfl) (by kernel_rfl) (fun _ d _ _ _ h => by cases d <;> exact h) (⟨(KAB.out _ (Mod.drew (Mod.refl _ _))).2.1.cells.1, (KAB.out _ (Mod.drew (Mod.refl _ _))).2.1.cells.2, (KAB.out _ (Mod.drew (Mod.refl _ _))).2.2.2.cells.1, (KAB.out _ (Mod.drew (Mod.refl _ _))).2.2.2.cells.2⟩) ?_
  simp only [planL, getO]
  iterate 2 (refine plan_take (v := ?_) (by rfl) (fun wS hS => ?_) ?_; rotate_left; (focus ((try dsimp only at hS); go_simp; (try with_reducible rfl); done)); (try simp only [Act.put, List.setIfInBounds_toArray, List.set_cons_zero, List.set_cons_succ]))
  refine plan_call (fun K hK => ?_)
  go_simp
  go_at_call 50; refine (natural_any _ (.slice (some ⟨ga, 0, none⟩) 3 3) (.slice none 0 0) _ aL16 (KAB.out _ (Mod.drew (Mod.refl _ _))).1 (by decide)).mono ?_; rintro e v10 ⟨nv10, rfl, n10, y10⟩; have x10 : Ext wb v10 := Mod.trans (Mod.drew (Mod.refl _ _)) y10; have HN10 := Lib.hid n10; clear n10
  refine hK.out _ _ (⟨(KAB.out _ x10).2.1.cells.1, (KAB.out _ x10).2.1.cells.2, (KAB.out _ x10).2.2.2.cells.1, (KAB.out _ x10).2.2.2.cells.2⟩) ?_
  clear hK K
  (try simp only [Act.put, List.setIfInBounds_toArray, List.set_cons_zero, List.set_cons_succ])
  refine plan_call (fun K hK => ?_)
  go_simp
  go_at_call 45; refine (atomic_any _ (.slice (some ⟨ga, 0, none⟩) 3 3) (.slice none 0 0) _ aL16 (KAB.out _ x10).1 (by decide) nv10 _ HN10.out).mono ?_; rintro e v11 ⟨rfl, y11⟩; have x11 : Ext wb v11 := Mod.trans x10 y11; rw [show atoI aL16 (natL aL16) = 2 by decide]
  refine hK.out _ _ (⟨(KAB.out _ x11).2.1.cells.1, (KAB.out _ x11).2.1.cells.2, (KAB.out _ x11).2.2.2.cells.1, (KAB.out _ x11).2.2.2.cells.2⟩) ?_
  clear hK K
  (try simp only [Act.put, List.setIfInBounds_toArray, List.set_cons_zero, List.set_cons_succ])
  iterate 3 (refine plan_take (v := ?_) (by rfl) (fun wS hS => ?_) ?_; rotate_left; (focus ((try dsimp only at hS); go_simp; (try with_reducible rfl); done)); (try simp only [Act.put, List.setIfInBounds_toArray, List.set_cons_zero, List.set_cons_succ]))
  refine plan_call (fun K hK => ?_)
  go_simp
  go_at_call 39; refine (coherent_any _ (.slice (some ⟨ga, 0, none⟩) 3 3) (.slice none 0 0) _ aL16 (KAB.out _ x11).1 (by decide)).mono ?_; rintro e v12 ⟨rfl, y12⟩; have x12 : Ext wb v12 := Mod.trans x11 y12; rw [show cohI aL16 = -1 by decide]
  refine hK.out _ _ (⟨(KAB.out _ x12).2.1.cells.1, (KAB.out _ x12).2.1.cells.2, (KAB.out _ x12).2.2.2.cells.1, (KAB.out _ x12).2.2.2.cells.2⟩) ?_
  clear hK K
  (try simp only [Act.put, List.setIfInBounds_toArray, List.set_cons_zero, List.set_cons_succ])
  iterate 5 (refine plan_take (v := ?_) (by rfl) (fun wS hS => ?_) ?_; rotate_left; (focus ((try dsimp only at hS); go_simp; (try with_reducible rfl); done)); (try simp only [Act.put, List.setIfInBounds_toArray, List.set_cons_zero, List.set_cons_succ]))
  refine plan_call (fun K hK => ?_)
  go_simp
  go_at_call 50; refine (natural_any _ (.slice (some ⟨ga, 0, none⟩) 3 3) (.slice none 0 0) _ aL16 (KAB.out _ x12).1 (by decide)).mono ?_; rintro e v13 ⟨nv13, rfl, n13, y13⟩; have x13 : Ext wb v13 := Mod.trans x12 y13; have HN13 := Lib.hid n13; clear n13
  refine hK.out _ _ (⟨(KAB.out _ x13).2.1.cells.1, (KAB.out _ x13).2.1.cells.2, (KAB.out _ x13).2.2.2.cells.1, (KAB.out _ x13).2.2.2.cells.2⟩) ?_
  clear hK K
  (try simp only [Act.put, List.setIfInBounds_toArray, List.set_cons_zero, List.set_cons_succ])
  refine plan_call (fun K hK => ?_)
  go_simp
  go_at_call 47; refine (valid_any _ (.slice (some ⟨ga, 0, none⟩) 3 3) (.slice none 0 0) _ aL16 (KAB.out _ x13).1 (by decide) nv13 _ HN13.out).mono ?_; rintro e v14 ⟨rfl, y14⟩; have x14 : Ext wb v14 := Mod.trans x13 y14; rw [show valB aL16 (natL aL16) = false by decide]
  refine hK.out _ _ (⟨(KAB.out _ x14).2.1.cells.1, (KAB.out _ x14).2.1.cells.2, (KAB.out _ x14).2.2.2.cells.1, (KAB.out _ x14).2.2.2.cells.2⟩) ?_
  clear hK K
  (try simp only [Act.put, List.setIfInBounds_toArray, List.set_cons_zero, List.set_cons_succ])
  iterate 4 (refine plan_take (v := ?_) (by rfl) (fun wS hS => ?_) ?_; rotate_left; (focus ((try dsimp only at hS); go_simp; (try with_reducible rfl); done)); (try simp only [Act.put, List.setIfInBounds_toArray, List.set_cons_zero, List.set_cons_succ]))
  refine plan_call (fun K hK => ?_)
  go_simp
  go_at_call 39; refine (coherent_any _ (.slice (some ⟨gb, 0, none⟩) 2 2) (.slice none 0 0) _ bL16 (KAB.out _ x14).2.2.1 (by decide)).mono ?_; rintro e v15 ⟨rfl, y15⟩; have x15 : Ext wb v15 := Mod.trans x14 y15; rw [show cohI bL16 = 1 by decide]
  refine hK.out _ _ (⟨(KAB.out _ x15).2.1.cells.1, (KAB.out _ x15).2.1.cells.2, (KAB.out _ x15).2.2.2.cells.1, (KAB.out _ x15).2.2.2.cells.2⟩) ?_
  clear hK K
  (try simp only [Act.put, List.setIfInBounds_toArray, List.set_cons_zero, List.set_cons_succ])
  iterate 4 (refine plan_take (v := ?_) (by rfl) (fun wS hS => ?_) ?_; rotate_left; (focus ((try dsimp only at hS); go_simp; (try with_reducible rfl); done)); (try simp only [Act.put, List.setIfInBounds_toArray, List.set_cons_zero, List.set_cons_succ]))
  refine plan_call (fun K hK => ?_)
  go_simp
  go_at_call 41; refine (tearfree_any _ (.slice (some ⟨gb, 0, none⟩) 2 2) (.slice none 0 0) _ bL16 (KAB.out _ x15).2.2.1 (by decide)).mono ?_; rintro e v16 ⟨rfl, y16⟩; have x16 : Ext wb v16 := Mod.trans x15 y16; rw [show tearI bL16 = -1 by decide]
  refine hK.out _ _ (⟨(KAB.out _ x16).2.1.cells.1, (KAB.out _ x16).2.1.cells.2, (KAB.out _ x16).2.2.2.cells.1, (KAB.out _ x16).2.2.2.cells.2⟩) ?_
  clear hK K
  (try simp only [Act.put, List.setIfInBounds_toArray, List.set_cons_zero, List.set_cons_succ])
  iterate 4 (refine plan_take (v := ?_) (by rfl) (fun wS hS => ?_) ?_; rotate_left; (focus ((try dsimp only at hS); go_simp; (try with_reducible rfl); done)); (try simp only [Act.put, List.setIfInBounds_toArray, List.set_cons_zero, List.set_cons_succ]))
  refine plan_call (fun K hK => ?_)
  go_simp
  go_at_call 47; refine (valid_any _ _ _ _ eL16 (nil_log16 _) (by decide) (.slice none 0 0) [] (litI _)).mono ?_; rintro e v17 ⟨rfl, y17⟩; have x17 : Ext wb v17 := Mod.trans x16 y17; rw [show valB eL16 [] = true by decide]
  refine hK.out _ _ (⟨(KAB.out _ x17).2.1.cells.1, (KAB.out _ x17).2.1.cells.2, (KAB.out _ x17).2.2.2.cells.1, (KAB.out _ x17).2.2.2.cells.2⟩) ?_
  clear hK K
  (try simp only [Act.put, List.setIfInBounds_toArray, List.set_cons_zero, List.set_cons_succ])
  iterate 2 (refine plan_take (v := ?_) (by rfl) (fun wS hS => ?_) ?_; rotate_left; (focus ((try dsimp only at hS); go_simp; (try with_reducible rfl); done)); (try simp only [Act.put, List.setIfInBounds_toArray, List.set_cons_zero, List.set_cons_succ]))
  refine plan_nil ?_
  go_wp2_with fail
  go_ret
  exact ⟨rfl, HX.out.trans x17⟩
end Go.Proofs.Ythmkcgiiakinmaa
