/-
  The contracts of race.Conflicts, race.Datas, race.First. No condition.
-/
import Derived.Test.YthmkcgiiakinmaaJRaceRc
namespace Go.Ren
set_option linter.unusedVariables false
theorem rowC_start (L : Lg) (a : Nat) : rowP (cfR L) a (a + 1) = [] := by
  unfold rowP
  rw [List.map_eq_nil_iff, List.filter_eq_nil_iff]
  intro b hb
  rw [List.mem_range] at hb
  intro hr
  have := cfR_lt _ _ hr
  omega
theorem cfR_unB {L : Lg} {a b : Nat} (h : a < b) : cfR L a b = unB L a b := by unfold cfR; simp [h]
theorem cfL_len {L : Lg} (hl : L.ev.length ≤ 64) : (cfL L).length ≤ 4096 := by
  unfold cfL
  split
  · have := listP_len (cfR L) hl L.ev.length; unfold listR; omega
  · simp
theorem cfL_at {L : Lg} {i : Nat} (hi : i < (cfL L).length) : ∃ a b : Nat, prn (cfL L) i = ((a : Int), (b : Int)) ∧ a < L.ev.length ∧ b < L.ev.length := by
  obtain ⟨_, a, b, e, h1, h2, _⟩ := mem_cfL.1 (List.getElem_mem hi)
  exact ⟨a, b, by rw [prn_eq hi, e], by omega, h2⟩
theorem take_filter_yes {l : List (Int × Int)} {q : Int × Int → Bool} {i : Nat} (hi : i < l.length) (h : q (prn l i) = true) : (l.take (i + 1)).filter q = (l.take i).filter q ++ [prn l i] := by
  rw [prn_eq hi] at h ⊢
  rw [List.take_succ_eq_append_getElem hi, List.filter_append]
  simp [h]
theorem take_filter_no {l : List (Int × Int)} {q : Int × Int → Bool} {i : Nat} (hi : i < l.length) (h : q (prn l i) = false) : (l.take (i + 1)).filter q = (l.take i).filter q := by
  rw [prn_eq hi] at h
  rw [List.take_succ_eq_append_getElem hi, List.filter_append]
  simp [h]
def frT (l : List (Int × Int)) (i : Nat) : Int := (l.take i).foldl frS (-1)
theorem frT_succ {l : List (Int × Int)} {i : Nat} (hi : i < l.length) : frT l (i + 1) = frS (frT l i) (prn l i) := by
  unfold frT
  rw [List.take_succ_eq_append_getElem hi, List.foldl_append, prn_eq hi]
  rfl
end Go.Ren
namespace Go.Proofs.Ythmkcgiiakinmaa
open Go.Ren Go.RowKit
set_option linter.unusedVariables false

theorem pair_cells {w : World} {v : Value} {l : List (Int × Int)} (h : PairsOwn w v l) {i : Nat} (hi : i < l.length) : w.cell? (at_ v (i * 2)) = some (.int .i64 (prn l i).1) ∧ w.cell? ⟨(at_ v (i * 2)).block, (at_ v (i * 2)).off + 1, none⟩ = some (.int .i64 (prn l i).2) :=
  ⟨h.sl.cell (i * 2) _ (flat_get (sz := 2) (j := 0) _ hi (by decide)), h.sl.cell_off (j := 1) (by decide) (flat_get (sz := 2) (j := 1) _ hi (by decide))⟩
def PListPost (l : List (Int × Int)) (w : World) (e : Ending) (w' : World) : Prop := ∃ v, e = .returned v ∧ PairsOwn w' v l ∧ Ext w w' ∧ ∀ q, v.ownBlock = some q → w.heap.size ≤ q
set_option maxRecDepth 100000 in
set_option maxHeartbeats 800000 in
theorem conflicts_any (w : World) (ve vp : Value) (V : Nat → Vs) (L : Lg) (h : LogIn w ve vp V L) (hl : L.ev.length ≤ 64) :
    Calls Try.prog 21 #[.agg #[ve, vp]] w (PListPost (cfL L) w) := by
  have HLE := Lib.hid hl
  have hle : (L.ev.length : Int) ≤ 64 := by omega
  have HLEN : Hid (∀ a b, a < L.ev.length → b < L.ev.length → (listP (cfR L) L.ev.length a ++ rowP (cfR L) a b).length ≤ 5000) := Lib.hid fun a b ha hb => by
    rw [List.length_append]
    have h1 := listP_len (cfR L) hl a
    have h2 := rowP_len (cfR L) a b
    omega
  clear hl
  have q1 := Sl.cells_eq h.row
  have q2 := Sl.cells_eq h.prow
  have s1 := Sl.run_st (P := Try.prog) h.row
  have s2 := Sl.run_st (P := Try.prog) h.prow
  obtain ⟨w0, hw0⟩ : ∃ w0, w0 = w.alloc (.cells #[ve, vp] 25) := ⟨_, rfl⟩
  obtain ⟨g0, hg0⟩ : ∃ g, g = w.heap.size := ⟨_, rfl⟩
  have x0 : Ext w w0 := by rw [hw0]; exact (Mod.refl _ _).alloc _
  have b0 : LogBox w0 g0 ve vp := ⟨by rw [hw0, hg0]; exact heap_alloc_new _ _⟩
  have HW := Lib.hid (And.intro hw0 (And.intro hg0 x0))
  have KE : Hid (∀ w', Ext w0 w' → LogIn w' ve vp V L ∧ LogBox w' g0 ve vp) := Lib.hid fun w' x => ⟨h.ext (x0.trans x), b0.ext x⟩
  have HI := Lib.hid (h.row.run_idx (P := Try.prog) IEv.und IEv.size .i64)
  have HJ := Lib.hid (h.prow.run_idx (P := Try.prog) IP.und IP.size .i64)
  have l1 := h.row.run_len (P := Try.prog) IEv.und 3
  have l2 := h.prow.run_len (P := Try.prog) IP.und 3
  obtain ⟨c0, c1⟩ := b0.cells
  clear hw0 hg0 x0 b0 h
  go_enter Try.func21, Try.ntmps21
  go_upto_region 1 with fail
  rw [← HW.out.1, ← HW.out.2.1]
  clear s1 s2
  go_wp2_with fail
  refine (may_any _ ve vp V L (KE.out _ (Mod.refl _ _)).1).mono ?_
  rintro e w1 ⟨rfl, y1⟩
  clear c0 c1
  cases hm : mayL L with
  | false =>
    have HC : Hid (cfL L = []) := Lib.hid (by unfold cfL; rw [hm]; rfl)
    clear hm
    go_wp2_with fail
    go_ret
    refine ⟨_, rfl, ?_, HW.out.2.2.trans y1, fun q hq => by cases hq⟩
    rw [HC.out]
    exact Own.nil _ _ _
  | true =>
    have HM := Lib.hid hm
    have HC : Hid (cfL L = listP (cfR L) L.ev.length L.ev.length) := Lib.hid (by unfold cfL listR; rw [hm]; rfl)
    clear hm
    obtain ⟨c0, c1⟩ := (KE.out _ y1).2.cells
    go_wp2_with fail
    refine (rbefore_any _ ve vp V L (KE.out _ y1).1 HLE.out).mono ?_
    rintro e w2 h2
    obtain ⟨pr, rfl, r2, y2⟩ := rpost_is h2
    rw [relN_may HM.out] at r2
    have HR2 := Lib.hid r2
    have HX2 := Lib.hid (y1.trans y2)
    clear h2 r2 c0 c1
    obtain ⟨c0, c1⟩ := (KE.out _ HX2.out).2.cells
    go_wp2_with fail
    clear c0 c1
    go_loopw [3, 15] (fun s3 s15 wr => ∃ a : Nat, a ≤ L.ev.length ∧ s15 = .int .i64 (a : Int) ∧ PairsOwn wr s3 (listP (cfR L) L.ev.length a) ∧ Ext w2 wr ∧ ∀ q, s3.ownBlock = some q → w2.heap.size ≤ q) (fun _ s _ => L.ev.length - (intOf s).toNat)
    case atStart => exact ⟨0, Nat.zero_le _, rfl, Own.nil _ _ _, Mod.refl _ _, fun q hq => by cases hq⟩
    case round =>
      obtain ⟨a, ha, rfl, ho, x, hf⟩ := hrel
      have H := Lib.hid (And.intro ho (And.intro x hf))
      clear ho x hf
      by_cases hlt : a < L.ev.length
      · have hlt' : (a : Int) < (L.ev.length : Int) := by omega
        have R1 : Hid (PairsOwn wr u3 (listP (cfR L) L.ev.length a ++ rowP (cfR L) a (a + 1))) := Lib.hid (by rw [rowC_start, List.append_nil]; exact H.out.1)
        go_wp2_with fail
        go_loopw [3, 6] (fun s3 s6 wr => ∃ b : Nat, a < b ∧ b ≤ L.ev.length ∧ s6 = .int .i64 (b : Int) ∧ PairsOwn wr s3 (listP (cfR L) L.ev.length a ++ rowP (cfR L) a b) ∧ Ext w2 wr ∧ ∀ q, s3.ownBlock = some q → w2.heap.size ≤ q) (fun _ s _ => L.ev.length - (intOf s).toNat)
        case atStart => exact ⟨a + 1, by omega, by omega, by go_num, R1.out, H.out.2.1, H.out.2.2⟩
        case round =>
          obtain ⟨b, hab, hb, rfl, ho, x, hf⟩ := hrel
          have H2 := Lib.hid (And.intro ho (And.intro x hf))
          obtain ⟨c0, c1⟩ := (KE.out _ (HX2.out.trans x)).2.cells
          clear ho x hf R1
          by_cases hbl : b < L.ev.length
          · have hbl' : (b : Int) < (L.ev.length : Int) := by omega
            go_wp2_with fail
            refine (unord_any _ ve vp V L (KE.out _ (HX2.out.trans H2.out.2.1)).1 _ (HR2.out.ext H2.out.2.1) a b hlt hbl).mono ?_
            rintro e w3 ⟨rfl, y3⟩
            clear c0 c1
            rw [← cfR_unB hab]
            cases hq : cfR L a b with
            | false =>
              have HN := Lib.hid (rowP_no hq)
              clear hq
              go_wp2_with fail
              go_roundw
              case rel => exact ⟨b + 1, by omega, by omega, by go_num, by rw [HN.out]; exact H2.out.1.ext y3, H2.out.2.1.trans y3, H2.out.2.2⟩
              case measure => simp [intOf]; omega
            | true =>
              have HN := Lib.hid (rowP_yes hq)
              have hlen := HLEN.out a b hlt hbl
              clear hq
              go_wp2_with (at_builtin; go_loud (refine wpList_app IP rfl (.tmp 32) (.tmp 36) rfl ((H2.out.1.ext y3).ext (Mod.alloc (Mod.refl _ _) _)) (built_sl (n := 1) (g := w3.heap.size) (e := 48) (cs := #[.int .i64 (a : Int), .int .i64 (b : Int)]) (by simp only [heap_alloc_if, if_true]) rfl (by simp only [maxLen]; omega)) (one2i _ _) (by simp [Act.eval]) (by simp [Act.eval]) (by omega) (by simp only [maxLen]; omega) ?_); intro lv' w4 ol2 gr2 fr2 nn2; have HH := Lib.hid (And.intro ol2 (And.intro gr2 fr2)); clear ol2 gr2 fr2 nn2)
              go_roundw
              case rel =>
                obtain ⟨ol2, gr2, fr2⟩ := HH.out
                have M2 : Mod (fun q => u3.ownBlock = some q) w3 w4 := Mod.grown (Mod.alloc (Mod.refl _ _) _) gr2 (fun q h => .inl h)
                obtain ⟨p1, p2, p3⟩ := pairs_more (H2.out.2.1.trans y3) H2.out.2.2 ol2 M2 (fun q hq => by
                  rcases fr2 q hq with h | h
                  · exact .inl h
                  · simp only [World.size_alloc] at h; exact .inr (by omega))
                exact ⟨b + 1, by omega, by omega, by go_num, by rw [HN.out, ← List.append_assoc]; exact p1, p2, p3⟩
              case measure => simp [intOf]; omega
          · have hbl' : ¬ (b : Int) < (L.ev.length : Int) := by omega
            have HB : Hid (b = L.ev.length) := Lib.hid (by omega)
            go_wp2_with fail
            go_roundw
            case rel => exact ⟨a + 1, by omega, by go_num, by have hb := HB.out; have h := H2.out.1; rw [hb] at h; rw [listP_succ]; exact h, H2.out.2.1, H2.out.2.2⟩
            case measure => simp [intOf]; omega
      · have hlt' : ¬ (a : Int) < (L.ev.length : Int) := by omega
        have HA : Hid (a = L.ev.length) := Lib.hid (by omega)
        go_wp2_with fail
        go_ret
        exact ⟨_, rfl, by have ha := HA.out; have h := H.out.1; rw [ha] at h; rw [HC.out]; exact h, HW.out.2.2.trans (HX2.out.trans H.out.2.1), fun q hq => by have h1 := H.out.2.2 q hq; have h2 := HX2.out.size; have h3 := HW.out.2.2.size; omega⟩
set_option maxRecDepth 100000 in
set_option maxHeartbeats 800000 in
theorem datas_any (w : World) (ve vp : Value) (V : Nat → Vs) (L : Lg) (h : LogIn w ve vp V L) (hl : L.ev.length ≤ 64) :
    Calls Try.prog 23 #[.agg #[ve, vp]] w (PListPost (dtL L) w) := by
  have HLE := Lib.hid hl
  have HLEN := Lib.hid (cfL_len hl)
  clear hl
  have q1 := Sl.cells_eq h.row
  have q2 := Sl.cells_eq h.prow
  have s1 := Sl.run_st (P := Try.prog) h.row
  have s2 := Sl.run_st (P := Try.prog) h.prow
  obtain ⟨w0, hw0⟩ : ∃ w0, w0 = w.alloc (.cells #[ve, vp] 25) := ⟨_, rfl⟩
  obtain ⟨g0, hg0⟩ : ∃ g, g = w.heap.size := ⟨_, rfl⟩
  have x0 : Ext w w0 := by rw [hw0]; exact (Mod.refl _ _).alloc _
  have b0 : LogBox w0 g0 ve vp := ⟨by rw [hw0, hg0]; exact heap_alloc_new _ _⟩
  have HW := Lib.hid (And.intro hw0 (And.intro hg0 x0))
  have KE : Hid (∀ w', Ext w0 w' → LogIn w' ve vp V L ∧ LogBox w' g0 ve vp) := Lib.hid fun w' x => ⟨h.ext (x0.trans x), b0.ext x⟩
  have HI := Lib.hid (h.row.run_idx (P := Try.prog) IEv.und IEv.size .i64)
  have HJ := Lib.hid (h.prow.run_idx (P := Try.prog) IP.und IP.size .i64)
  have l1 := h.row.run_len (P := Try.prog) IEv.und 3
  have l2 := h.prow.run_len (P := Try.prog) IP.und 3
  obtain ⟨c0, c1⟩ := b0.cells
  clear hw0 hg0 x0 b0 h
  go_enter Try.func23, Try.ntmps23
  go_upto_region 1 with fail
  rw [← HW.out.1, ← HW.out.2.1]
  clear s1 s2
  go_wp2_with fail
  refine (conflicts_any _ ve vp V L (KE.out _ (Mod.refl _ _)).1 HLE.out).mono ?_
  rintro e w1 ⟨cv, rfl, ho1, y1, -⟩
  obtain ⟨C, hC⟩ : ∃ C, C = cfL L := ⟨_, rfl⟩
  rw [← hC] at ho1
  have hCl : (C.length : Int) ≤ 4096 := by have := HLEN.out; rw [← hC] at this; omega
  have HAT : Hid (∀ i, i < C.length → ∃ a b : Nat, prn C i = ((a : Int), (b : Int)) ∧ a < L.ev.length ∧ b < L.ev.length) := Lib.hid (by rw [hC]; exact fun i hi => cfL_at hi)
  have HD : Hid (dtL L = C.filter fun p => rcB L p.1 p.2) := Lib.hid (by rw [hC]; rfl)
  have lc := ho1.sl.run_len (P := Try.prog) IP.und 3
  have HIC := Lib.hid (ho1.sl.run_idx (P := Try.prog) IP.und IP.size .i64)
  have HO := Lib.hid ho1
  clear c0 c1 hC ho1
  go_wp2_with fail
  go_loopw [3, 9] (fun s3 s9 wr => ∃ i : Nat, i ≤ C.length ∧ s9 = .int .i64 (i : Int) ∧ PairsOwn wr s3 ((C.take i).filter fun p => rcB L p.1 p.2) ∧ Ext w1 wr ∧ ∀ q, s3.ownBlock = some q → w1.heap.size ≤ q) (fun _ s _ => C.length - (intOf s).toNat)
  case atStart => exact ⟨0, Nat.zero_le _, rfl, Own.nil _ _ _, Mod.refl _ _, fun q hq => by cases hq⟩
  case round =>
    obtain ⟨i, hi, rfl, ho, x, hf⟩ := hrel
    have H := Lib.hid (And.intro ho (And.intro x hf))
    by_cases hlt : i < C.length
    · have hlt' : (i : Int) < (C.length : Int) := by omega
      have j0 := HIC.out i hlt
      obtain ⟨e0, e1⟩ := pair_cells (HO.out.ext x) hlt
      obtain ⟨pa, pb, hp, h1, h2⟩ := HAT.out i hlt
      rw [hp] at e0 e1
      obtain ⟨A, hA⟩ : ∃ A, A = at_ cv (i * 2) := ⟨_, rfl⟩
      rw [← hA] at j0 e0 e1
      have hle : (((C.take i).filter fun p => rcB L p.1 p.2).length : Int) ≤ 4096 := by
        have := List.length_filter_le (fun p => rcB L p.1 p.2) (C.take i)
        rw [List.length_take] at this; omega
      obtain ⟨K, hK⟩ : ∃ K, K = (C.take i).filter fun p => rcB L p.1 p.2 := ⟨_, rfl⟩
      rw [← hK] at hle
      have HK : Hid (PairsOwn wr u3 K) := Lib.hid (by rw [hK]; exact ho)
      have HY : Hid (rcB L pa pb = true → (C.take (i + 1)).filter (fun p => rcB L p.1 p.2) = K ++ [((pa : Int), (pb : Int))]) := Lib.hid fun hr => by rw [take_filter_yes hlt (by rw [hp]; exact hr), hp, hK]
      have HN : Hid (rcB L pa pb = false → (C.take (i + 1)).filter (fun p => rcB L p.1 p.2) = K) := Lib.hid fun hr => by rw [take_filter_no hlt (by rw [hp]; exact hr), hK]
      have HAB := Lib.hid (And.intro h1 h2)
      obtain ⟨w5, hw5⟩ : ∃ w5, w5 = wr.alloc (.cells #[.int .i64 (pa : Int), .int .i64 (pb : Int)] 48) := ⟨_, rfl⟩
      obtain ⟨g5, hg5⟩ : ∃ g, g = wr.heap.size := ⟨_, rfl⟩
      have x5 : Ext wr w5 := by rw [hw5]; exact (Mod.refl _ _).alloc _
      have b5 : w5.heap[g5]? = some (.cells #[.int .i64 (pa : Int), .int .i64 (pb : Int)] 48 (0, 0)) := by rw [hw5, hg5]; exact heap_alloc_new _ _
      have HW5 := Lib.hid (And.intro hw5 (And.intro hg5 (And.intro x5 b5)))
      have HXX := Lib.hid (x.trans x5)
      have d0 : w5.cell? ⟨g5, 0, none⟩ = some (.int .i64 (pa : Int)) := by simp [World.cell?, b5]
      have d1 : w5.cell? ⟨g5, 1, none⟩ = some (.int .i64 (pb : Int)) := by simp [World.cell?, b5]
      clear ho x hf hp h1 h2 hA hK hw5 hg5 x5 b5
      go_upto_region 5 with fail
      rw [← HW5.out.1, ← HW5.out.2.1]
      obtain ⟨c0, c1⟩ := (KE.out _ (y1.trans HXX.out)).2.cells
      clear e0 e1 j0
      go_wp2_with fail
      refine (races_any _ ve vp V L (KE.out _ (y1.trans HXX.out)).1 pa pb HAB.out.1 HAB.out.2).mono ?_
      rintro e w6 ⟨rfl, y6⟩
      clear c0 c1 d0 d1
      have d0 : w6.cell? ⟨g5, 0, none⟩ = some (.int .i64 (pa : Int)) := by simp [World.cell?, y6.blk HW5.out.2.2.2]
      have d1 : w6.cell? ⟨g5, 1, none⟩ = some (.int .i64 (pb : Int)) := by simp [World.cell?, y6.blk HW5.out.2.2.2]
      cases hr : rcB L pa pb with
      | false =>
        have HN2 := Lib.hid (HN.out hr)
        clear hr
        go_wp2_with fail
        go_roundw
        case rel => exact ⟨i + 1, by omega, by go_num, by rw [HN2.out]; exact (HK.out.ext HW5.out.2.2.1).ext y6, HXX.out.trans y6, H.out.2.2⟩
        case measure => simp [intOf]; omega
      | true =>
        have HY2 := Lib.hid (HY.out hr)
        clear hr
        go_wp2_with (at_builtin; go_loud (refine wpList_app IP rfl (.tmp 19) (.tmp 21) rfl (((HK.out.ext HW5.out.2.2.1).ext y6).ext (Mod.alloc (Mod.refl _ _) _)) (built_sl (n := 1) (g := w6.heap.size) (e := 48) (cs := #[.int .i64 (pa : Int), .int .i64 (pb : Int)]) (by simp only [heap_alloc_if, if_true]) rfl (by simp only [maxLen]; omega)) (one2i _ _) (by simp [Act.eval]) (by simp [Act.eval]) (by omega) (by simp only [maxLen]; omega) ?_); intro lv' w7 ol2 gr2 fr2 nn2; have HH := Lib.hid (And.intro ol2 (And.intro gr2 fr2)); clear ol2 gr2 fr2 nn2)
        go_roundw
        case rel =>
          obtain ⟨ol2, gr2, fr2⟩ := HH.out
          have M2 : Mod (fun q => u3.ownBlock = some q) w6 w7 := Mod.grown (Mod.alloc (Mod.refl _ _) _) gr2 (fun q h => .inl h)
          obtain ⟨p1, p2, p3⟩ := pairs_more (HXX.out.trans y6) H.out.2.2 ol2 M2 (fun q hq => by
            rcases fr2 q hq with h | h
            · exact .inl h
            · simp only [World.size_alloc] at h; exact .inr (by omega))
          exact ⟨i + 1, by omega, by go_num, by rw [HY2.out]; exact p1, p2, p3⟩
        case measure => simp [intOf]; omega
    · have hlt' : ¬ (i : Int) < (C.length : Int) := by omega
      have HA : Hid (i = C.length) := Lib.hid (by omega)
      clear ho x hf
      go_wp2_with fail
      go_ret
      exact ⟨_, rfl, by have ha := HA.out; have h := H.out.1; rw [ha, List.take_length] at h; rw [HD.out]; exact h, HW.out.2.2.trans (y1.trans H.out.2.1), fun q hq => by have h1 := H.out.2.2 q hq; have h2 := y1.size; have h3 := HW.out.2.2.size; omega⟩
def IntPost (r : Int) (w : World) (e : Ending) (w' : World) : Prop := e = .returned (.int .i64 r) ∧ Ext w w'
set_option maxRecDepth 100000 in
set_option maxHeartbeats 800000 in
theorem rfirst_any (w : World) (ve vp : Value) (V : Nat → Vs) (L : Lg) (h : LogIn w ve vp V L) (hl : L.ev.length ≤ 64) :
    Calls Try.prog 24 #[.agg #[ve, vp]] w (IntPost (frL (cfL L)) w) := by
  have HLE := Lib.hid hl
  have HLEN := Lib.hid (cfL_len hl)
  clear hl
  have q1 := Sl.cells_eq h.row
  have q2 := Sl.cells_eq h.prow
  have s1 := Sl.run_st (P := Try.prog) h.row
  have s2 := Sl.run_st (P := Try.prog) h.prow
  obtain ⟨w0, hw0⟩ : ∃ w0, w0 = w.alloc (.cells #[ve, vp] 25) := ⟨_, rfl⟩
  obtain ⟨g0, hg0⟩ : ∃ g, g = w.heap.size := ⟨_, rfl⟩
  have x0 : Ext w w0 := by rw [hw0]; exact (Mod.refl _ _).alloc _
  have b0 : LogBox w0 g0 ve vp := ⟨by rw [hw0, hg0]; exact heap_alloc_new _ _⟩
  have HW := Lib.hid (And.intro hw0 (And.intro hg0 x0))
  have KE : Hid (∀ w', Ext w0 w' → LogIn w' ve vp V L ∧ LogBox w' g0 ve vp) := Lib.hid fun w' x => ⟨h.ext (x0.trans x), b0.ext x⟩
  have HI := Lib.hid (h.row.run_idx (P := Try.prog) IEv.und IEv.size .i64)
  have HJ := Lib.hid (h.prow.run_idx (P := Try.prog) IP.und IP.size .i64)
  have l1 := h.row.run_len (P := Try.prog) IEv.und 3
  have l2 := h.prow.run_len (P := Try.prog) IP.und 3
  obtain ⟨c0, c1⟩ := b0.cells
  clear hw0 hg0 x0 b0 h
  go_enter Try.func24, Try.ntmps24
  go_upto_region 1 with fail
  rw [← HW.out.1, ← HW.out.2.1]
  clear s1 s2
  go_wp2_with fail
  refine (conflicts_any _ ve vp V L (KE.out _ (Mod.refl _ _)).1 HLE.out).mono ?_
  rintro e w1 ⟨cv, rfl, ho1, y1, -⟩
  obtain ⟨C, hC⟩ : ∃ C, C = cfL L := ⟨_, rfl⟩
  rw [← hC] at ho1
  have hCl : (C.length : Int) ≤ 4096 := by have := HLEN.out; rw [← hC] at this; omega
  have HAT : Hid (∀ i, i < C.length → ∃ a b : Nat, prn C i = ((a : Int), (b : Int)) ∧ a < 64 ∧ b < 64) := Lib.hid (by rw [hC]; exact fun i hi => by obtain ⟨a, b, e, h1, h2⟩ := cfL_at hi; have := HLE.out; exact ⟨a, b, e, by omega, by omega⟩)
  have HD : Hid (frL (cfL L) = frT C C.length) := Lib.hid (by rw [hC]; unfold frL frT; rw [List.take_length])
  have lc := ho1.sl.run_len (P := Try.prog) IP.und 3
  have HIC := Lib.hid (ho1.sl.run_idx (P := Try.prog) IP.und IP.size .i64)
  have HO := Lib.hid ho1
  clear c0 c1 hC ho1
  go_wp2_with fail
  go_loopw [3, 9] (fun s3 s9 wr => ∃ i : Nat, i ≤ C.length ∧ s9 = .int .i64 (i : Int) ∧ ∃ f : Int, s3 = .int .i64 f ∧ f = frT C i ∧ -1 ≤ f ∧ f ≤ 64 ∧ Ext w1 wr) (fun _ s _ => C.length - (intOf s).toNat)
  case atStart => exact ⟨0, Nat.zero_le _, rfl, -1, rfl, rfl, by decide, by decide, Mod.refl _ _⟩
  case round =>
    obtain ⟨i, hi, rfl, f, rfl, hf, hf1, hf2, x⟩ := hrel
    have HF := Lib.hid hf
    have HX := Lib.hid x
    by_cases hlt : i < C.length
    · have hlt' : (i : Int) < (C.length : Int) := by omega
      have j0 := HIC.out i hlt
      obtain ⟨e0, e1⟩ := pair_cells (HO.out.ext x) hlt
      obtain ⟨pa, pb, hp, h1, h2⟩ := HAT.out i hlt
      rw [hp] at e0 e1
      obtain ⟨A, hA⟩ : ∃ A, A = at_ cv (i * 2) := ⟨_, rfl⟩
      rw [← hA] at j0 e0 e1
      have hst : frT C (i + 1) = if f < 0 ∨ (pb : Int) < f - 1 then (pb : Int) + 1 else f := by rw [frT_succ hlt, hp, ← hf]; rfl
      have HST := Lib.hid hst
      have hpb : (pb : Int) < 64 := by omega
      clear hst hf x hp hA h1 h2
      rcases (by omega : f < 0 ∨ (¬ f < 0 ∧ (pb : Int) < f - 1) ∨ (¬ f < 0 ∧ ¬ (pb : Int) < f - 1)) with z | ⟨z, z1⟩ | ⟨z, z1⟩
      case inr.inr =>
        have HV : Hid (f = frT C (i + 1)) := Lib.hid (by rw [HST.out, if_neg (by omega)])
        go_wp2_with fail
        go_roundw
        case rel => exact ⟨i + 1, by omega, by go_num, f, rfl, HV.out, hf1, hf2, HX.out.alloc _⟩
        case measure => simp [intOf]; omega
      all_goals
        have HV : Hid ((pb : Int) + 1 = frT C (i + 1)) := Lib.hid (by rw [HST.out, if_pos (by omega)])
        go_wp2_with fail
        go_roundw
        case rel => exact ⟨i + 1, by omega, by go_num, (pb : Int) + 1, by go_num, HV.out, by omega, by omega, HX.out.alloc _⟩
        case measure => simp [intOf]; omega
    · have hlt' : ¬ (i : Int) < (C.length : Int) := by omega
      have HA : Hid (f = frL (cfL L)) := Lib.hid (by rw [HD.out, hf]; congr 1; omega)
      clear hf x
      go_wp2_with fail
      go_ret
      exact ⟨by rw [← HA.out]; rfl, HW.out.2.2.trans (y1.trans HX.out)⟩
end Go.Proofs.Ythmkcgiiakinmaa
