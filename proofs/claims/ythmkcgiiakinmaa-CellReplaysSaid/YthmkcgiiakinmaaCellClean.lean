/-
  The contracts of cell.Clean, renref18.Clean. No condition.
-/
import Derived.Test.YthmkcgiiakinmaaCellAt
import Derived.Test.YthmkcgiiakinmaaRvMay
import Derived.Test.YthmkcgiiakinmaaRvLog
namespace Go.Proofs.Ythmkcgiiakinmaa
open Go.Ren Go.RowKit
set_option linter.unusedVariables false
def nilV : Vs := ⟨.slice none 0 0, .slice none 0 0, .slice none 0 0⟩
theorem nil_ev (w : World) {blk pos size : Int} (h1 : I64 blk) (h2 : I64 pos) (h3 : I64 size) : EvAt w (ldE blk pos size) nilV :=
  ⟨(Go.Ren.Own.nil w 5 1).sl, (Go.Ren.Own.nil w 5 1).sl, ⟨(Go.Ren.Own.nil w 3 1).sl, fun x hx => by cases hx⟩, ⟨by show I64 0; unfold I64; omega, by show I64 1; unfold I64; omega, h1, h2, h3, fun x hx => by cases hx⟩⟩
set_option maxRecDepth 100000 in
set_option maxHeartbeats 1600000 in
theorem clean_any (w : World) (ve vp : Value) (V : Nat → Vs) (L : Lg) (h : LogIn w ve vp V L) (blk pos size : Int) (hb : I64 blk) (ha : I64 pos) (hs : I64 size) :
    Calls Try.prog 33 #[.agg #[ve, vp], .int .i64 blk, .int .i64 pos, .int .i64 size] w (FPost (cleanB L (ldE blk pos size)) w) := by
  have HBI := Lib.hid (And.intro hb (And.intro ha hs))
  clear hb ha hs
  have q1 := Sl.cells_eq h.row
  have q2 := Sl.cells_eq h.prow
  have s1 := Sl.run_st (P := Try.prog) h.row
  have s2 := Sl.run_st (P := Try.prog) h.prow
  obtain ⟨w0, hw0⟩ : ∃ w0, w0 = w.alloc (.cells #[ve, vp] 25) := ⟨_, rfl⟩
  obtain ⟨g0, hg0⟩ : ∃ g, g = w.heap.size := ⟨_, rfl⟩
  have x0 : Ext w w0 := by rw [hw0]; exact (Mod.refl _ _).alloc _
  have b0 : LogBox w0 g0 ve vp := ⟨by rw [hw0, hg0]; exact heap_alloc_new _ _⟩
  have HW := Lib.hid (And.intro hw0 (And.intro hg0 x0))
  have KE : Hid (∀ w', Ext w0 w' → LogIn w' ve vp V L ∧ LogBox w' g0 ve vp) := Lib.hid fun w' x => ⟨h.ext (x0.trans x), b0.ext x⟩
  have HI := Lib.hid (h.row.run_idx (P := Try.prog) IEv.und IEv.size .i64)
  have HJ := Lib.hid (h.prow.run_idx (P := Try.prog) IP.und IP.size .i64)
  have l1 := h.row.run_len (P := Try.prog) IEv.und 3
  have l2 := h.prow.run_len (P := Try.prog) IP.und 3
  obtain ⟨c0, c1⟩ := b0.cells
  clear hw0 hg0 x0 b0 h
  go_enter Try.func33, Try.ntmps33
  go_upto_region 1 with fail
  rw [← HW.out.1, ← HW.out.2.1]
  clear s1 s2
  go_wp2_with fail
  refine (may_any _ ve vp V L (KE.out _ (Mod.refl _ _)).1).mono ?_
  rintro e w2 ⟨rfl, y1⟩
  clear c0 c1
  have HY1 := Lib.hid y1
  cases hm : mayL L with
  | false =>
    have HC : Hid (cleanB L (ldE blk pos size) = false) := Lib.hid (clean_no (.inl hm))
    clear hm
    go_wp2_with fail
    go_ret
    exact ⟨by rw [HC.out]; rfl, HW.out.2.2.trans y1⟩
  | true =>
    have HM := Lib.hid hm
    have hle : (L.ev.length : Int) ≤ 1000 := by have := (mayL_iff.1 hm).1.1; omega
    clear hm
    cases hg : goodB size with
    | false =>
      have HC : Hid (cleanB L (ldE blk pos size) = false) := Lib.hid (clean_no (.inr hg))
      have HGB := Lib.hid hg
      have hk := (kindC_good size).trans (by rw [hg]; rfl : (!goodB size) = true)
      clear hg
      go_wp2_with fail
      refine (cellkind_any _ size).mono ?_
      rintro e w2 ⟨rfl, rfl⟩
      skip
      go_wp2_with fail
      go_ret
      exact ⟨by rw [HC.out]; rfl, HW.out.2.2.trans HY1.out⟩
    | true =>
      have HGD : Hid (goodB (ldE blk pos size).size = true) := Lib.hid hg
      have HGB := Lib.hid hg
      have hk := (kindC_good size).trans (by rw [hg]; rfl : (!goodB size) = false)
      clear hg y1
      go_wp2_with fail
      refine (cellkind_any _ size).mono ?_
      rintro e w2 ⟨rfl, rfl⟩
      skip
      obtain ⟨c0, c1⟩ := (KE.out _ HY1.out).2.cells
      obtain ⟨w3, hw3⟩ : ∃ w3, w3 = w2.alloc (.cells #[.int .i64 0, .int .i64 1, .bool false, .bool false, .int .i64 blk, .int .i64 pos, .int .i64 size, .slice none 0 0, .slice none 0 0, .slice none 0 0] 45) := ⟨_, rfl⟩
      obtain ⟨g3, hg3⟩ : ∃ g, g = w2.heap.size := ⟨_, rfl⟩
      have x3 : Ext w2 w3 := by rw [hw3]; exact (Mod.refl _ _).alloc _
      have b3 : EvBox w3 g3 (ldE blk pos size) nilV := ⟨by rw [hw3, hg3]; exact heap_alloc_new _ _⟩
      have HW3 := Lib.hid (And.intro hw3 hg3)
      have HX3 := Lib.hid (HY1.out.trans x3)
      have KX : Hid (∀ w', Ext w3 w' → EvAt w' (ldE blk pos size) nilV ∧ EvBox w' g3 (ldE blk pos size) nilV) := Lib.hid fun w' x => ⟨nil_ev w' HBI.out.1 HBI.out.2.1 HBI.out.2.2, b3.ext x⟩
      clear hw3 hg3 x3 b3 c0 c1
      go_upto_region 4 with fail
      rw [← HW3.out.1, ← HW3.out.2]
      obtain ⟨c0, c1⟩ := (KE.out _ HX3.out).2.cells
      go_wp2_with fail
      clear c0 c1
      go_loopw [27] (fun s wr => ∃ r : Nat, r ≤ L.ev.length ∧ s = .int .i64 (r : Int) ∧ (∀ j, j < r → cl1 (evn L.ev j) (ldE blk pos size) = false) ∧ Ext w3 wr) (fun s _ => L.ev.length - (intOf s).toNat)
      case atStart => exact ⟨0, Nat.zero_le _, rfl, fun j hj => absurd hj (Nat.not_lt_zero _), Mod.refl _ _⟩
      case round =>
        obtain ⟨r, hr, rfl, hn, xx⟩ := hrel
        have HN := Lib.hid hn
        have HX := Lib.hid xx
        clear hn xx
        by_cases hlt : r < L.ev.length
        · have hlt' : (r : Int) < (L.ev.length : Int) := by omega
          have i0 := HI.out r hlt
          have hlg := (KE.out _ (HX3.out.trans HX.out)).1
          obtain ⟨c0, c1, c2, c3, c4, c5, c6, c7, c8, c9⟩ := hlg.cells hlt
          have hea := hlg.ev r hlt
          obtain ⟨e, he⟩ : ∃ e, e = evn L.ev r := ⟨_, rfl⟩
          obtain ⟨v, hv⟩ : ∃ v, v = V r := ⟨_, rfl⟩
          obtain ⟨A, hA⟩ : ∃ A, A = at_ ve (r * 10) := ⟨_, rfl⟩
          rw [← hA] at i0 c0 c1 c2 c3 c4 c5 c6 c7 c8 c9
          rw [← he] at c0 c1 c2 c3 c4 c5 c6 hea
          rw [← hv] at c7 c8 c9 hea
          obtain ⟨k1, k2, k3, t1, t2, t3⟩ := ev_facts hea
          obtain ⟨w5, hw5⟩ : ∃ w5, w5 = wr.alloc (.cells (evArr e v) 45) := ⟨_, rfl⟩
          obtain ⟨g5, hg5⟩ : ∃ g, g = wr.heap.size := ⟨_, rfl⟩
          have x5 : Ext wr w5 := by rw [hw5]; exact (Mod.refl _ _).alloc _
          have b5 : EvBox w5 g5 e v := by rw [hw5, hg5]; exact EvBox.of wr e v
          have HEA := Lib.hid (hea.ext x5)
          have HE := Lib.hid (And.intro he hv)
          have HW5 := Lib.hid (And.intro hw5 (And.intro hg5 (And.intro x5 b5)))
          have l5 := hea.fr.sl.run_len (P := Try.prog) II.und 3
          have J5 := Lib.hid (hea.fr.sl.run_idx (P := Try.prog) II.und II.size .i64)
          obtain ⟨d0, d1, d2, d3, d4, d5, d6, d7, d8, d9⟩ := b5.cells
          clear hlg hea he hv hA hw5 hg5 x5 b5
          go_upto_region 7 with fail
          rw [← HW5.out.1, ← HW5.out.2.1]
          clear c0 c1 c2 c3 c4 c5 c6 c7 c8 c9 t1 t2 t3 i0
          have HXQ := Lib.hid (HX.out.trans HW5.out.2.2.1)
          obtain ⟨O, hO⟩ : ∃ O, O = evOver e (ldE blk pos size) := ⟨_, rfl⟩
          obtain ⟨Q, hQ⟩ : ∃ O, O = evEq e (ldE blk pos size) := ⟨_, rfl⟩
          obtain ⟨S, hS⟩ : ∃ O, O = e.seq := ⟨_, rfl⟩
          have HO := Lib.hid hO.symm
          have HQ := Lib.hid hQ.symm
          have HS := Lib.hid hS.symm
          have HC1 : Hid (cl1 (evn L.ev r) (ldE blk pos size) = (O && (!S || !Q))) := Lib.hid (by rw [← HE.out.1, hO, hQ, hS]; rfl)
          have KV : Hid (∀ w', Ext w5 w' → EvAt w' ⟨e.ag, e.kind, S, e.nt, e.blk, e.at_, e.size, e.rd, e.wr, e.fr⟩ v) := Lib.hid fun w' z => by rw [hS]; exact HEA.out.ext z
          clear hO hQ hS
          obtain ⟨a0, a1, a2, a3, a4, a5, a6, a7, a8, a9⟩ := (KX.out _ (HXQ.out)).2.cells
          go_wp2_with fail
          refine (overlap_any _ e (ldE blk pos size) v nilV HEA.out (KX.out _ HXQ.out).1).mono ?_
          rintro en w6 ⟨rfl, y6⟩
          rw [HO.out]
          clear d0 d1 d2 d3 d4 d5 d6 d7 d8 d9 a0 a1 a2 a3 a4 a5 a6 a7 a8 a9
          have HXR := Lib.hid (HXQ.out.trans y6)
          obtain ⟨d0, d1, d2, d3, d4, d5, d6, d7, d8, d9⟩ := (HW5.out.2.2.2.ext y6).cells
          obtain ⟨a0, a1, a2, a3, a4, a5, a6, a7, a8, a9⟩ := (KX.out _ (HXR.out)).2.cells
          have HY6 := Lib.hid y6
          rw [HS.out] at d2
          cases O with
          | false =>
            have HNN : Hid (∀ j, j < r + 1 → cl1 (evn L.ev j) (ldE blk pos size) = false) := Lib.hid (fun j hj => by
              by_cases e : j = r
              · rw [e, HC1.out]; rfl
              · exact HN.out j (by omega))
            clear y6
            go_wp2_with fail
            go_roundw
            case rel => exact ⟨r + 1, by omega, by go_num, HNN.out, HXR.out⟩
            case measure => simp [intOf]; omega
          | true =>
            cases S with
            | false =>
              have HF : Hid (cleanB L (ldE blk pos size) = false) := Lib.hid (clean_hit hlt (by rw [HC1.out]; rfl))
              clear y6
              go_wp2_with fail
              go_ret
              exact ⟨by rw [HF.out]; rfl, HW.out.2.2.trans (HX3.out.trans (HXR.out))⟩
            | true =>
              clear y6
              go_wp2_with fail
              refine (equal_any _ ⟨e.ag, e.kind, true, e.nt, e.blk, e.at_, e.size, e.rd, e.wr, e.fr⟩ (ldE blk pos size) v nilV (KV.out _ HY6.out) (KX.out _ HXR.out).1).mono ?_
              rintro en w7 ⟨rfl, y6⟩
              rw [show evEq ⟨e.ag, e.kind, true, e.nt, e.blk, e.at_, e.size, e.rd, e.wr, e.fr⟩ (ldE blk pos size) = Q from HQ.out]
              clear d0 d1 d2 d3 d4 d5 d6 d7 d8 d9 a0 a1 a2 a3 a4 a5 a6 a7 a8 a9
              have HXT := Lib.hid (HXR.out.trans y6)
              cases Q with
              | false =>
                have HF : Hid (cleanB L (ldE blk pos size) = false) := Lib.hid (clean_hit hlt (by rw [HC1.out]; rfl))
                clear y6
                go_wp2_with fail
                go_ret
                exact ⟨by rw [HF.out]; rfl, HW.out.2.2.trans (HX3.out.trans (HXT.out))⟩
              | true =>
                have HNN : Hid (∀ j, j < r + 1 → cl1 (evn L.ev j) (ldE blk pos size) = false) := Lib.hid (fun j hj => by
                  by_cases e : j = r
                  · rw [e, HC1.out]; rfl
                  · exact HN.out j (by omega))
                clear y6
                go_wp2_with fail
                go_roundw
                case rel => exact ⟨r + 1, by omega, by go_num, HNN.out, HXT.out⟩
                case measure => simp [intOf]; omega
        · have hlt' : ¬ (r : Int) < (L.ev.length : Int) := by omega
          have hrn : r = L.ev.length := by omega
          have HT : Hid (cleanB L (ldE blk pos size) = true) := Lib.hid (clean_yes HM.out HGD.out (by rw [← hrn]; exact HN.out))
          clear hrn
          go_wp2_with fail
          go_ret
          exact ⟨by rw [HT.out]; rfl, HW.out.2.2.trans (HX3.out.trans HX.out)⟩
set_option maxRecDepth 100000 in
set_option maxHeartbeats 1600000 in
theorem rclean_any (w : World) (ve vp : Value) (V : Nat → Vs) (L : Lg) (h : LogIn w ve vp V L) (hsm : SmL L) (blk pos size : Int) (hb : I64 blk) (ha : I64 pos) (hs : I64 size) :
    Calls Try.prog 34 #[.agg #[ve, vp], .int .i64 blk, .int .i64 pos, .int .i64 size] w (FPost (cleanB L (ldE blk pos size)) w) := by
  have HBI := Lib.hid (And.intro hb (And.intro ha hs))
  have HSM := Lib.hid hsm
  clear hb ha hs hsm
  have q1 := Sl.cells_eq h.row
  have q2 := Sl.cells_eq h.prow
  have s1 := Sl.run_st (P := Try.prog) h.row
  have s2 := Sl.run_st (P := Try.prog) h.prow
  obtain ⟨w0, hw0⟩ : ∃ w0, w0 = w.alloc (.cells #[ve, vp] 30) := ⟨_, rfl⟩
  obtain ⟨g0, hg0⟩ : ∃ g, g = w.heap.size := ⟨_, rfl⟩
  have x0 : Ext w w0 := by rw [hw0]; exact (Mod.refl _ _).alloc _
  have b0 : RLogBox w0 g0 ve vp := ⟨by rw [hw0, hg0]; exact heap_alloc_new _ _⟩
  have HW := Lib.hid (And.intro hw0 (And.intro hg0 x0))
  have KE : Hid (∀ w', Ext w0 w' → LogIn w' ve vp V L ∧ RLogBox w' g0 ve vp) := Lib.hid fun w' x => ⟨h.ext (x0.trans x), b0.ext x⟩
  have HI := Lib.hid (h.row.run_idx (P := Try.prog) IRe.und IRe.size .i64)
  have HJ := Lib.hid (h.prow.run_idx (P := Try.prog) IP.und IP.size .i64)
  have l1 := h.row.run_len (P := Try.prog) IRe.und 3
  have l2 := h.prow.run_len (P := Try.prog) IP.und 3
  obtain ⟨c0, c1⟩ := b0.cells
  clear hw0 hg0 x0 b0 h
  go_enter Try.func34, Try.ntmps34
  go_upto_region 1 with fail
  rw [← HW.out.1, ← HW.out.2.1]
  clear s1 s2
  go_wp2_with fail
  refine (rmay_any _ ve vp V L (KE.out _ (Mod.refl _ _)).1 HSM.out).mono ?_
  rintro e w2 ⟨rfl, y1⟩
  clear c0 c1
  have HY1 := Lib.hid y1
  cases hm : mayL L with
  | false =>
    have HC : Hid (cleanB L (ldE blk pos size) = false) := Lib.hid (clean_no (.inl hm))
    clear hm
    go_wp2_with fail
    go_ret
    exact ⟨by rw [HC.out]; rfl, HW.out.2.2.trans y1⟩
  | true =>
    have HM := Lib.hid hm
    have hle : (L.ev.length : Int) ≤ 1000 := by have := (mayL_iff.1 hm).1.1; omega
    clear hm
    cases hg : goodB size with
    | false =>
      have HC : Hid (cleanB L (ldE blk pos size) = false) := Lib.hid (clean_no (.inr hg))
      have HGB := Lib.hid hg
      skip
      clear hg
      go_wp2_with fail
      refine (good_any _ size).mono ?_
      rintro e w2 ⟨rfl, rfl⟩
      rw [HGB.out]
      go_wp2_with fail
      go_ret
      exact ⟨by rw [HC.out]; rfl, HW.out.2.2.trans HY1.out⟩
    | true =>
      have HGD : Hid (goodB (ldE blk pos size).size = true) := Lib.hid hg
      have HGB := Lib.hid hg
      skip
      clear hg y1
      go_wp2_with fail
      refine (good_any _ size).mono ?_
      rintro e w2 ⟨rfl, rfl⟩
      rw [HGB.out]
      obtain ⟨c0, c1⟩ := (KE.out _ HY1.out).2.cells
      obtain ⟨w3, hw3⟩ : ∃ w3, w3 = w2.alloc (.cells #[.int .i64 0, .int .i64 1, .bool false, .bool false, .int .i64 blk, .int .i64 pos, .int .i64 size, .slice none 0 0, .slice none 0 0, .slice none 0 0] 67) := ⟨_, rfl⟩
      obtain ⟨g3, hg3⟩ : ∃ g, g = w2.heap.size := ⟨_, rfl⟩
      have x3 : Ext w2 w3 := by rw [hw3]; exact (Mod.refl _ _).alloc _
      have b3 : REvBox w3 g3 (ldE blk pos size) nilV := ⟨by rw [hw3, hg3]; exact heap_alloc_new _ _⟩
      have HW3 := Lib.hid (And.intro hw3 hg3)
      have HX3 := Lib.hid (HY1.out.trans x3)
      have KX : Hid (∀ w', Ext w3 w' → EvAt w' (ldE blk pos size) nilV ∧ REvBox w' g3 (ldE blk pos size) nilV) := Lib.hid fun w' x => ⟨nil_ev w' HBI.out.1 HBI.out.2.1 HBI.out.2.2, b3.ext x⟩
      clear hw3 hg3 x3 b3 c0 c1
      go_upto_region 4 with fail
      rw [← HW3.out.1, ← HW3.out.2]
      obtain ⟨c0, c1⟩ := (KE.out _ HX3.out).2.cells
      go_wp2_with fail
      clear c0 c1
      go_loopw [10] (fun s wr => ∃ r : Nat, r ≤ L.ev.length ∧ s = .int .i64 (r : Int) ∧ (∀ j, j < r → cl1 (evn L.ev j) (ldE blk pos size) = false) ∧ Ext w3 wr) (fun s _ => L.ev.length - (intOf s).toNat)
      case atStart => exact ⟨0, Nat.zero_le _, rfl, fun j hj => absurd hj (Nat.not_lt_zero _), Mod.refl _ _⟩
      case round =>
        obtain ⟨r, hr, rfl, hn, xx⟩ := hrel
        have HN := Lib.hid hn
        have HX := Lib.hid xx
        obtain ⟨l0, l1'⟩ := (KE.out _ (HX3.out.trans xx)).2.cells
        clear hn xx
        by_cases hlt : r < L.ev.length
        · have hlt' : (r : Int) < (L.ev.length : Int) := by omega
          have i0 := HI.out r hlt
          have hlg := (KE.out _ (HX3.out.trans HX.out)).1
          obtain ⟨c0, c1, c2, c3, c4, c5, c6, c7, c8, c9⟩ := hlg.cells hlt
          have hea := hlg.ev r hlt
          obtain ⟨e, he⟩ : ∃ e, e = evn L.ev r := ⟨_, rfl⟩
          obtain ⟨v, hv⟩ : ∃ v, v = V r := ⟨_, rfl⟩
          obtain ⟨A, hA⟩ : ∃ A, A = at_ ve (r * 10) := ⟨_, rfl⟩
          rw [← hA] at i0 c0 c1 c2 c3 c4 c5 c6 c7 c8 c9
          rw [← he] at c0 c1 c2 c3 c4 c5 c6 hea
          rw [← hv] at c7 c8 c9 hea
          obtain ⟨k1, k2, k3, t1, t2, t3⟩ := ev_facts hea
          obtain ⟨w5, hw5⟩ : ∃ w5, w5 = wr.alloc (.cells (evArr e v) 67) := ⟨_, rfl⟩
          obtain ⟨g5, hg5⟩ : ∃ g, g = wr.heap.size := ⟨_, rfl⟩
          have x5 : Ext wr w5 := by rw [hw5]; exact (Mod.refl _ _).alloc _
          have b5 : REvBox w5 g5 e v := ⟨by rw [hw5, hg5]; exact heap_alloc_new _ _⟩
          have HEA := Lib.hid (hea.ext x5)
          have HE := Lib.hid (And.intro he hv)
          have HW5 := Lib.hid (And.intro hw5 (And.intro hg5 (And.intro x5 b5)))
          have l5 := hea.fr.sl.run_len (P := Try.prog) II.und 3
          have J5 := Lib.hid (hea.fr.sl.run_idx (P := Try.prog) II.und II.size .i64)
          obtain ⟨d0, d1, d2, d3, d4, d5, d6, d7, d8, d9⟩ := b5.cells
          clear hlg hea he hv hA hw5 hg5 x5 b5
          go_upto_region 8 with fail
          rw [← HW5.out.1, ← HW5.out.2.1]
          clear c0 c1 c2 c3 c4 c5 c6 c7 c8 c9 t1 t2 t3 i0
          clear l0 l1'
          have HXQ := Lib.hid (HX.out.trans HW5.out.2.2.1)
          obtain ⟨O, hO⟩ : ∃ O, O = evOver e (ldE blk pos size) := ⟨_, rfl⟩
          obtain ⟨Q, hQ⟩ : ∃ O, O = evEq e (ldE blk pos size) := ⟨_, rfl⟩
          obtain ⟨S, hS⟩ : ∃ O, O = e.seq := ⟨_, rfl⟩
          have HO := Lib.hid hO.symm
          have HQ := Lib.hid hQ.symm
          have HS := Lib.hid hS.symm
          have HC1 : Hid (cl1 (evn L.ev r) (ldE blk pos size) = (O && (!S || !Q))) := Lib.hid (by rw [← HE.out.1, hO, hQ, hS]; rfl)
          have KV : Hid (∀ w', Ext w5 w' → EvAt w' ⟨e.ag, e.kind, S, e.nt, e.blk, e.at_, e.size, e.rd, e.wr, e.fr⟩ v) := Lib.hid fun w' z => by rw [hS]; exact HEA.out.ext z
          clear hO hQ hS
          obtain ⟨a0, a1, a2, a3, a4, a5, a6, a7, a8, a9⟩ := (KX.out _ (HXQ.out)).2.cells
          go_wp2_with fail
          refine (roverlap_any _ e (ldE blk pos size) v nilV HEA.out (KX.out _ HXQ.out).1).mono ?_
          rintro en w6 ⟨rfl, y6⟩
          rw [HO.out]
          clear d0 d1 d2 d3 d4 d5 d6 d7 d8 d9 a0 a1 a2 a3 a4 a5 a6 a7 a8 a9
          have HXR := Lib.hid (HXQ.out.trans y6)
          obtain ⟨d0, d1, d2, d3, d4, d5, d6, d7, d8, d9⟩ := (HW5.out.2.2.2.ext y6).cells
          obtain ⟨a0, a1, a2, a3, a4, a5, a6, a7, a8, a9⟩ := (KX.out _ (HXR.out)).2.cells
          have HY6 := Lib.hid y6
          rw [HS.out] at d2
          cases O with
          | false =>
            have HNN : Hid (∀ j, j < r + 1 → cl1 (evn L.ev j) (ldE blk pos size) = false) := Lib.hid (fun j hj => by
              by_cases e : j = r
              · rw [e, HC1.out]; rfl
              · exact HN.out j (by omega))
            clear y6
            go_wp2_with fail
            go_roundw
            case rel => exact ⟨r + 1, by omega, by go_num, HNN.out, HXR.out⟩
            case measure => simp [intOf]; omega
          | true =>
            cases S with
            | false =>
              have HF : Hid (cleanB L (ldE blk pos size) = false) := Lib.hid (clean_hit hlt (by rw [HC1.out]; rfl))
              clear y6
              go_wp2_with fail
              go_ret
              exact ⟨by rw [HF.out]; rfl, HW.out.2.2.trans (HX3.out.trans (HXR.out))⟩
            | true =>
              clear y6
              go_wp2_with fail
              refine (requal_any _ ⟨e.ag, e.kind, true, e.nt, e.blk, e.at_, e.size, e.rd, e.wr, e.fr⟩ (ldE blk pos size) v nilV (KV.out _ HY6.out) (KX.out _ HXR.out).1).mono ?_
              rintro en w7 ⟨rfl, y6⟩
              rw [show evEq ⟨e.ag, e.kind, true, e.nt, e.blk, e.at_, e.size, e.rd, e.wr, e.fr⟩ (ldE blk pos size) = Q from HQ.out]
              clear d0 d1 d2 d3 d4 d5 d6 d7 d8 d9 a0 a1 a2 a3 a4 a5 a6 a7 a8 a9
              have HXT := Lib.hid (HXR.out.trans y6)
              cases Q with
              | false =>
                have HF : Hid (cleanB L (ldE blk pos size) = false) := Lib.hid (clean_hit hlt (by rw [HC1.out]; rfl))
                clear y6
                go_wp2_with fail
                go_ret
                exact ⟨by rw [HF.out]; rfl, HW.out.2.2.trans (HX3.out.trans (HXT.out))⟩
              | true =>
                have HNN : Hid (∀ j, j < r + 1 → cl1 (evn L.ev j) (ldE blk pos size) = false) := Lib.hid (fun j hj => by
                  by_cases e : j = r
                  · rw [e, HC1.out]; rfl
                  · exact HN.out j (by omega))
                clear y6
                go_wp2_with fail
                go_roundw
                case rel => exact ⟨r + 1, by omega, by go_num, HNN.out, HXT.out⟩
                case measure => simp [intOf]; omega
        · have hlt' : ¬ (r : Int) < (L.ev.length : Int) := by omega
          have hrn : r = L.ev.length := by omega
          have HT : Hid (cleanB L (ldE blk pos size) = true) := Lib.hid (clean_yes HM.out HGD.out (by rw [← hrn]; exact HN.out))
          clear hrn
          go_wp2_with fail
          go_ret
          exact ⟨by rw [HT.out]; rfl, HW.out.2.2.trans (HX3.out.trans HX.out)⟩
end Go.Proofs.Ythmkcgiiakinmaa
