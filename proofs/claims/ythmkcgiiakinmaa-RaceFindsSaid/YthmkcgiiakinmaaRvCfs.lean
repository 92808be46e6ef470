/-
  The contracts of renref14.Conflicts, First. No condition.
-/
import Derived.Test.YthmkcgiiakinmaaRvConf
import Derived.Test.YthmkcgiiakinmaaRaceCf
namespace Go.Ren
set_option linter.unusedVariables false
def cdR (L : Lg) (D : Bool) (a b : Nat) : Bool := cfR L a b && (!D || rcB L a b)
def cdL (L : Lg) (D : Bool) : List (Int × Int) := if mayL L = true then listR L.ev.length (cdR L D) else []
theorem rowP_fq (R : Nat → Nat → Bool) (q : Int × Int → Bool) (a b : Nat) : (rowP R a b).filter q = rowP (fun x y => R x y && q ((x : Int), (y : Int))) a b := by
  unfold rowP
  rw [List.filter_map, List.filter_filter]
  congr 1
  exact List.filter_congr fun y _ => by simp [Function.comp, Bool.and_comm]
theorem listP_fq (R : Nat → Nat → Bool) (q : Int × Int → Bool) (n a : Nat) : (listP R n a).filter q = listP (fun x y => R x y && q ((x : Int), (y : Int))) n a := by
  induction a with
  | zero => rfl
  | succ a ih => rw [listP_succ, listP_succ, List.filter_append, ih, rowP_fq]
theorem cdL_false (L : Lg) : cdL L false = cfL L := by
  unfold cdL cfL
  rw [show cdR L false = cfR L by funext a b; simp [cdR]]
theorem cdL_true (L : Lg) : cdL L true = dtL L := by
  unfold cdL dtL cfL
  split
  · unfold listR
    rw [listP_fq]
    congr 1
  · rfl
theorem cdR_start (L : Lg) (D : Bool) (a : Nat) : rowP (cdR L D) a (a + 1) = [] := by
  unfold rowP
  rw [List.map_eq_nil_iff, List.filter_eq_nil_iff]
  intro b hb
  rw [List.mem_range] at hb
  intro hr
  unfold cdR at hr
  rw [Bool.and_eq_true] at hr
  have := cfR_lt _ _ hr.1
  omega
theorem rcfB_nat {L : Lg} {a b : Nat} (hab : a < b) (ha : a < L.ev.length) (hb : b < L.ev.length) : rcfB L a b = cfR L a b := by
  unfold rcfB rngB
  rw [show decide (0 ≤ (a : Int) ∧ (a : Int) < (L.ev.length : Int) ∧ 0 ≤ (b : Int) ∧ (b : Int) < (L.ev.length : Int) ∧ (a : Int) ≠ (b : Int)) = true by rw [decide_eq_true_eq]; omega, Bool.true_and, cfR_unB hab]
  rfl
end Go.Ren
namespace Go.Proofs.Ythmkcgiiakinmaa
open Go.Ren Go.RowKit
set_option linter.unusedVariables false
set_option maxRecDepth 100000 in
set_option maxHeartbeats 800000 in
theorem rconflicts_any (w : World) (ve vp : Value) (V : Nat → Vs) (L : Lg) (h : LogIn w ve vp V L) (hsm : SmL L) (hl : L.ev.length ≤ 64) (D : Bool) :
    Calls Try.prog 22 #[.agg #[ve, vp], .bool D] w (PListPost (cdL L D) w) := by
  have HSM := Lib.hid hsm
  have HLE := Lib.hid hl
  have hle : (L.ev.length : Int) ≤ 64 := by omega
  have HLEN : Hid (∀ a b, a < L.ev.length → b < L.ev.length → (listP (cdR L D) L.ev.length a ++ rowP (cdR L D) a b).length ≤ 5000) := Lib.hid fun a b ha hb => by
    rw [List.length_append]
    have h1 := listP_len (cdR L D) hl a
    have h2 := rowP_len (cdR L D) a b
    omega
  clear hl hsm
  have q1 := Sl.cells_eq h.row
  have q2 := Sl.cells_eq h.prow
  have s1 := Sl.run_st (P := Try.prog) h.row
  have s2 := Sl.run_st (P := Try.prog) h.prow
  obtain ⟨w0, hw0⟩ : ∃ w0, w0 = w.alloc (.cells #[ve, vp] 30) := ⟨_, rfl⟩
  obtain ⟨g0, hg0⟩ : ∃ g, g = w.heap.size := ⟨_, rfl⟩
  have x0 : Ext w w0 := by rw [hw0]; exact (Mod.refl _ _).alloc _
  have b0 : RLogBox w0 g0 ve vp := ⟨by rw [hw0, hg0]; exact heap_alloc_new _ _⟩
  have HW := Lib.hid (And.intro hw0 (And.intro hg0 x0))
  have KE : Hid (∀ w', Ext w0 w' → LogIn w' ve vp V L ∧ RLogBox w' g0 ve vp) := Lib.hid fun w' x => ⟨h.ext (x0.trans x), b0.ext x⟩
  have HI := Lib.hid (h.row.run_idx (P := Try.prog) IRe.und IRe.size .i64)
  have HJ := Lib.hid (h.prow.run_idx (P := Try.prog) IP.und IP.size .i64)
  have l1 := h.row.run_len (P := Try.prog) IRe.und 3
  have l2 := h.prow.run_len (P := Try.prog) IP.und 3
  obtain ⟨c0, c1⟩ := b0.cells
  clear hw0 hg0 x0 b0 h
  go_enter Try.func22, Try.ntmps22
  go_upto_region 1 with fail
  rw [← HW.out.1, ← HW.out.2.1]
  clear s1 s2
  go_wp2_with fail
  refine (rmay_any _ ve vp V L (KE.out _ (Mod.refl _ _)).1 HSM.out).mono ?_
  rintro e w1 ⟨rfl, y1⟩
  clear c0 c1
  cases hm : mayL L with
  | false =>
    have HC : Hid (cdL L D = []) := Lib.hid (by unfold cdL; rw [hm]; rfl)
    clear hm
    go_wp2_with fail
    go_ret
    refine ⟨_, rfl, ?_, HW.out.2.2.trans y1, fun q hq => by cases hq⟩
    rw [HC.out]
    exact Own.nil _ _ _
  | true =>
    have HM := Lib.hid hm
    have HC : Hid (cdL L D = listP (cdR L D) L.ev.length L.ev.length) := Lib.hid (by unfold cdL listR; rw [hm]; rfl)
    clear hm
    obtain ⟨c0, c1⟩ := (KE.out _ y1).2.cells
    go_wp2_with fail
    refine (rrbefore_any _ ve vp V L (KE.out _ y1).1 HSM.out HLE.out).mono ?_
    rintro e w2 ⟨rv, R, rfl, hlp⟩
    have hrr := hlp.is
    rw [relN_yes HM.out] at hrr
    have HRR := Lib.hid hrr
    have HX2 := Lib.hid (y1.trans hlp.x)
    clear hlp hrr c0 c1
    go_wp2_with fail
    go_loopw [6, 7] (fun s3 s15 wr => ∃ a : Nat, a ≤ L.ev.length ∧ s15 = .int .i64 (a : Int) ∧ PairsOwn wr s3 (listP (cdR L D) L.ev.length a) ∧ Ext w2 wr ∧ ∀ q, s3.ownBlock = some q → w2.heap.size ≤ q) (fun _ s _ => L.ev.length - (intOf s).toNat)
    case atStart => exact ⟨0, Nat.zero_le _, rfl, Own.nil _ _ _, Mod.refl _ _, fun q hq => by cases hq⟩
    case round =>
      obtain ⟨a, ha, rfl, ho, x, hf⟩ := hrel
      have H := Lib.hid (And.intro ho (And.intro x hf))
      obtain ⟨c0, c1⟩ := (KE.out _ (HX2.out.trans x)).2.cells
      clear ho x hf
      by_cases hlt : a < L.ev.length
      · have hlt' : (a : Int) < (L.ev.length : Int) := by omega
        have R1 : Hid (PairsOwn wr u6 (listP (cdR L D) L.ev.length a ++ rowP (cdR L D) a (a + 1))) := Lib.hid (by rw [cdR_start, List.append_nil]; exact H.out.1)
        go_wp2_with fail
        clear c0 c1
        go_loopw [6, 8] (fun s3 s6 wr => ∃ b : Nat, a < b ∧ b ≤ L.ev.length ∧ s6 = .int .i64 (b : Int) ∧ PairsOwn wr s3 (listP (cdR L D) L.ev.length a ++ rowP (cdR L D) a b) ∧ Ext w2 wr ∧ ∀ q, s3.ownBlock = some q → w2.heap.size ≤ q) (fun _ s _ => L.ev.length - (intOf s).toNat)
        case atStart => exact ⟨a + 1, by omega, by omega, by go_num, R1.out, H.out.2.1, H.out.2.2⟩
        case round =>
          obtain ⟨b, hab, hb, rfl, ho, x, hf⟩ := hrel
          have H2 := Lib.hid (And.intro ho (And.intro x hf))
          obtain ⟨c0, c1⟩ := (KE.out _ (HX2.out.trans x)).2.cells
          clear ho x hf R1
          by_cases hbl : b < L.ev.length
          · have hbl' : (b : Int) < (L.ev.length : Int) := by omega
            go_wp2_with fail
            refine (rconflict_any _ ve vp V L (KE.out _ (HX2.out.trans H2.out.2.1)).1 _ _ (HRR.out.ext H2.out.2.1) a b).mono ?_
            rintro e w3 ⟨rfl, y3⟩
            clear c0 c1
            rw [rcfB_nat hab hlt hbl]
            obtain ⟨c0, c1⟩ := (KE.out _ (HX2.out.trans (H2.out.2.1.trans y3))).2.cells
            cases hq : cfR L a b with
            | false =>
              have HN := Lib.hid (rowP_no (R := cdR L D) (a := a) (b := b) (by unfold cdR; rw [hq]; rfl))
              clear hq
              go_wp2_with fail
              go_roundw
              case rel => exact ⟨b + 1, by omega, by omega, by go_num, by rw [HN.out]; exact H2.out.1.ext y3, H2.out.2.1.trans y3, H2.out.2.2⟩
              case measure => simp [intOf]; omega
            | true =>
              have HQ := Lib.hid hq
              clear hq
              cases D with
              | false =>
                have HN := Lib.hid (rowP_yes (R := cdR L false) (a := a) (b := b) (by unfold cdR; rw [HQ.out]; rfl))
                have hlen := HLEN.out a b hlt hbl
                go_wp2_with (at_builtin; go_loud (refine wpList_app IP rfl (.tmp 46) (.tmp 50) rfl ((H2.out.1.ext y3).ext (Mod.alloc (Mod.refl _ _) _)) (built_sl (n := 1) (g := w3.heap.size) (e := 48) (cs := #[.int .i64 (a : Int), .int .i64 (b : Int)]) (by simp only [heap_alloc_if, if_true]) rfl (by simp only [maxLen]; omega)) (one2i _ _) (by simp [Act.eval]) (by simp [Act.eval]) (by omega) (by simp only [maxLen]; omega) ?_); intro lv' wz ol2 gr2 fr2 nn2; have HH := Lib.hid (And.intro ol2 (And.intro gr2 fr2)); clear ol2 gr2 fr2 nn2)
                go_roundw
                case rel =>
                  obtain ⟨ol2, gr2, fr2⟩ := HH.out
                  have M2 : Mod (fun q => u6.ownBlock = some q) w3 wz := Mod.grown (Mod.alloc (Mod.refl _ _) _) gr2 (fun q h => .inl h)
                  obtain ⟨p1, p2, p3⟩ := pairs_more (H2.out.2.1.trans y3) H2.out.2.2 ol2 M2 (fun q hq => by
                    rcases fr2 q hq with h | h
                    · exact .inl h
                    · simp only [World.size_alloc] at h; exact .inr (by omega))
                  exact ⟨b + 1, by omega, by omega, by go_num, by rw [HN.out, ← List.append_assoc]; exact p1, p2, p3⟩
                case measure => simp [intOf]; omega
              | true =>
                go_wp2_with fail
                refine (rdata_any _ ve vp V L (KE.out _ (HX2.out.trans (H2.out.2.1.trans y3))).1 _ _ (HRR.out.ext (H2.out.2.1.trans y3)) a b).mono ?_
                rintro e w4 ⟨rfl, y4⟩
                rw [rcfB_nat hab hlt hbl, HQ.out, Bool.true_and]
                cases hr : rcB L a b with
                | false =>
                  have HN := Lib.hid (rowP_no (R := cdR L true) (a := a) (b := b) (by unfold cdR; rw [hr]; simp))
                  clear hr
                  go_wp2_with fail
                  go_roundw
                  case rel => exact ⟨b + 1, by omega, by omega, by go_num, by rw [HN.out]; exact H2.out.1.ext (y3.trans y4), H2.out.2.1.trans (y3.trans y4), H2.out.2.2⟩
                  case measure => simp [intOf]; omega
                | true =>
                  have HN := Lib.hid (rowP_yes (R := cdR L true) (a := a) (b := b) (by unfold cdR; rw [hr, HQ.out]; rfl))
                  clear hr
                  have hlen := HLEN.out a b hlt hbl
                  go_wp2_with (at_builtin; go_loud (refine wpList_app IP rfl (.tmp 46) (.tmp 50) rfl ((H2.out.1.ext (y3.trans y4)).ext (Mod.alloc (Mod.refl _ _) _)) (built_sl (n := 1) (g := w4.heap.size) (e := 48) (cs := #[.int .i64 (a : Int), .int .i64 (b : Int)]) (by simp only [heap_alloc_if, if_true]) rfl (by simp only [maxLen]; omega)) (one2i _ _) (by simp [Act.eval]) (by simp [Act.eval]) (by omega) (by simp only [maxLen]; omega) ?_); intro lv' wz ol2 gr2 fr2 nn2; have HH := Lib.hid (And.intro ol2 (And.intro gr2 fr2)); clear ol2 gr2 fr2 nn2)
                  go_roundw
                  case rel =>
                    obtain ⟨ol2, gr2, fr2⟩ := HH.out
                    have M2 : Mod (fun q => u6.ownBlock = some q) w4 wz := Mod.grown (Mod.alloc (Mod.refl _ _) _) gr2 (fun q h => .inl h)
                    obtain ⟨p1, p2, p3⟩ := pairs_more (H2.out.2.1.trans (y3.trans y4)) H2.out.2.2 ol2 M2 (fun q hq => by
                      rcases fr2 q hq with h | h
                      · exact .inl h
                      · simp only [World.size_alloc] at h; exact .inr (by omega))
                    exact ⟨b + 1, by omega, by omega, by go_num, by rw [HN.out, ← List.append_assoc]; exact p1, p2, p3⟩
                  case measure => simp [intOf]; omega
          · have hbl' : ¬ (b : Int) < (L.ev.length : Int) := by omega
            have HB : Hid (b = L.ev.length) := Lib.hid (by omega)
            go_wp2_with fail
            go_roundw
            case rel => exact ⟨a + 1, by omega, by go_num, by have hb := HB.out; have h := H2.out.1; rw [hb] at h; rw [listP_succ]; exact h, H2.out.2.1, H2.out.2.2⟩
            case measure => simp [intOf]; omega
      · have hlt' : ¬ (a : Int) < (L.ev.length : Int) := by omega
        have HA : Hid (a = L.ev.length) := Lib.hid (by omega)
        go_wp2_with fail
        go_ret
        exact ⟨_, rfl, by have ha := HA.out; have h := H.out.1; rw [ha] at h; rw [HC.out]; exact h, HW.out.2.2.trans (HX2.out.trans H.out.2.1), fun q hq => by have h1 := H.out.2.2 q hq; have h2 := HX2.out.size; have h3 := HW.out.2.2.size; omega⟩
set_option maxRecDepth 100000 in
set_option maxHeartbeats 800000 in
theorem rrfirst_any (w : World) (ve vp : Value) (V : Nat → Vs) (L : Lg) (h : LogIn w ve vp V L) (hsm : SmL L) (hl : L.ev.length ≤ 64) :
    Calls Try.prog 25 #[.agg #[ve, vp]] w (IntPost (frL (cfL L)) w) := by
  have HSM := Lib.hid hsm
  have HLE := Lib.hid hl
  have HLEN := Lib.hid (cfL_len hl)
  clear hl hsm
  have q1 := Sl.cells_eq h.row
  have q2 := Sl.cells_eq h.prow
  have s1 := Sl.run_st (P := Try.prog) h.row
  have s2 := Sl.run_st (P := Try.prog) h.prow
  obtain ⟨w0, hw0⟩ : ∃ w0, w0 = w.alloc (.cells #[ve, vp] 30) := ⟨_, rfl⟩
  obtain ⟨g0, hg0⟩ : ∃ g, g = w.heap.size := ⟨_, rfl⟩
  have x0 : Ext w w0 := by rw [hw0]; exact (Mod.refl _ _).alloc _
  have b0 : RLogBox w0 g0 ve vp := ⟨by rw [hw0, hg0]; exact heap_alloc_new _ _⟩
  have HW := Lib.hid (And.intro hw0 (And.intro hg0 x0))
  have KE : Hid (∀ w', Ext w0 w' → LogIn w' ve vp V L ∧ RLogBox w' g0 ve vp) := Lib.hid fun w' x => ⟨h.ext (x0.trans x), b0.ext x⟩
  have HI := Lib.hid (h.row.run_idx (P := Try.prog) IRe.und IRe.size .i64)
  have HJ := Lib.hid (h.prow.run_idx (P := Try.prog) IP.und IP.size .i64)
  have l1 := h.row.run_len (P := Try.prog) IRe.und 3
  have l2 := h.prow.run_len (P := Try.prog) IP.und 3
  obtain ⟨c0, c1⟩ := b0.cells
  clear hw0 hg0 x0 b0 h
  go_enter Try.func25, Try.ntmps25
  go_upto_region 1 with fail
  rw [← HW.out.1, ← HW.out.2.1]
  clear s1 s2
  go_wp2_with fail
  refine (rconflicts_any _ ve vp V L (KE.out _ (Mod.refl _ _)).1 HSM.out HLE.out false).mono ?_
  rintro e w1 ⟨cv, rfl, ho1, y1, -⟩
  rw [cdL_false] at ho1
  obtain ⟨C, hC⟩ : ∃ C, C = cfL L := ⟨_, rfl⟩
  rw [← hC] at ho1
  have hCl : (C.length : Int) ≤ 4096 := by have := HLEN.out; rw [← hC] at this; omega
  have HAT : Hid (∀ i, i < C.length → ∃ a b : Nat, prn C i = ((a : Int), (b : Int)) ∧ a < 64 ∧ b < 64) := Lib.hid (by rw [hC]; exact fun i hi => by obtain ⟨a, b, e, h1, h2⟩ := cfL_at hi; have := HLE.out; exact ⟨a, b, e, by omega, by omega⟩)
  have HD : Hid (frL (cfL L) = frT C C.length) := Lib.hid (by rw [hC]; unfold frL frT; rw [List.take_length])
  have lc := ho1.sl.run_len (P := Try.prog) IP.und 3
  have HIC := Lib.hid (ho1.sl.run_idx (P := Try.prog) IP.und IP.size .i64)
  have HO := Lib.hid ho1
  clear c0 c1 hC ho1
  go_wp2_with fail
  go_loopw [4, 5] (fun s3 s9 wr => ∃ i : Nat, i ≤ C.length ∧ s9 = .int .i64 (i : Int) ∧ ∃ f : Int, s3 = .int .i64 f ∧ f = frT C i ∧ -1 ≤ f ∧ f ≤ 64 ∧ Ext w1 wr) (fun _ s _ => C.length - (intOf s).toNat)
  case atStart => exact ⟨0, Nat.zero_le _, rfl, -1, rfl, rfl, by decide, by decide, Mod.refl _ _⟩
  case round =>
    obtain ⟨i, hi, rfl, f, rfl, hf, hf1, hf2, x⟩ := hrel
    have HF := Lib.hid hf
    have HX := Lib.hid x
    by_cases hlt : i < C.length
    · have hlt' : (i : Int) < (C.length : Int) := by omega
      have j0 := HIC.out i hlt
      obtain ⟨e0, e1⟩ := pair_cells (HO.out.ext x) hlt
      obtain ⟨pa, pb, hp, h1, h2⟩ := HAT.out i hlt
      rw [hp] at e0 e1
      obtain ⟨A, hA⟩ : ∃ A, A = at_ cv (i * 2) := ⟨_, rfl⟩
      rw [← hA] at j0 e0 e1
      have hst : frT C (i + 1) = if f < 0 ∨ (pb : Int) < f - 1 then (pb : Int) + 1 else f := by rw [frT_succ hlt, hp, ← hf]; rfl
      have HST := Lib.hid hst
      have hpb : (pb : Int) < 64 := by omega
      have hwp : IntKind.i64.wrap ((pb : Int) + 1) = (pb : Int) + 1 := IntWalk.i64_in _ (by omega)
      clear hst hf x hp hA h1 h2
      rcases (by omega : f < 0 ∨ (¬ f < 0 ∧ (pb : Int) + 1 < f) ∨ (¬ f < 0 ∧ ¬ (pb : Int) + 1 < f)) with z | ⟨z, z1⟩ | ⟨z, z1⟩
      case inr.inr =>
        have HV : Hid (f = frT C (i + 1)) := Lib.hid (by rw [HST.out, if_neg (by omega)])
        go_wp2_with fail
        go_roundw
        case rel => exact ⟨i + 1, by omega, by go_num, f, rfl, HV.out, hf1, hf2, HX.out⟩
        case measure => simp [intOf]; omega
      all_goals
        have HV : Hid ((pb : Int) + 1 = frT C (i + 1)) := Lib.hid (by rw [HST.out, if_pos (by omega)])
        go_wp2_with fail
        go_roundw
        case rel => exact ⟨i + 1, by omega, by go_num, (pb : Int) + 1, by go_num, HV.out, by omega, by omega, HX.out⟩
        case measure => simp [intOf]; omega
    · have hlt' : ¬ (i : Int) < (C.length : Int) := by omega
      have HA : Hid (f = frL (cfL L)) := Lib.hid (by rw [HD.out, hf]; congr 1; omega)
      clear hf x
      go_wp2_with fail
      go_ret
      exact ⟨by rw [← HA.out]; rfl, HW.out.2.2.trans (y1.trans HX.out)⟩
end Go.Proofs.Ythmkcgiiakinmaa
