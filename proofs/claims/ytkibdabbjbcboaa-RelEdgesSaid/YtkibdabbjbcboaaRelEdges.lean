/-
  RelEdges: the walk of renlaw15.RelEdges. No condition.
-/
import Derived.Test.YtkibdabbjbcboaaRelHeads
namespace Go.Proofs.Ytkibdabbjbcboaa
open Go.Ren Go.RowKit
set_option linter.unusedVariables false

set_option maxRecDepth 100000 in
set_option maxHeartbeats 1600000 in
theorem relEdges_all (w : World) (ve vp : Value) (V : Nat → Vs) (L : Lg) (h : LogIn w ve vp V L) (a b : Int) :
    Calls Try.prog 14 #[.agg #[ve, vp], .int .i64 a, .int .i64 b] w (FPost true w) := by
  have q1 := Sl.cells_eq h.row
  have q2 := Sl.cells_eq h.prow
  have s1 := Sl.run_st (P := Try.prog) h.row
  have s2 := Sl.run_st (P := Try.prog) h.prow
  obtain ⟨w0, hw0⟩ : ∃ w0, w0 = w.alloc (.cells #[ve, vp] 25) := ⟨_, rfl⟩
  obtain ⟨g0, hg0⟩ : ∃ g, g = w.heap.size := ⟨_, rfl⟩
  have x0 : Ext w w0 := by rw [hw0]; exact (Mod.refl _ _).alloc _
  have b0 : LogBox w0 g0 ve vp := ⟨by rw [hw0, hg0]; exact heap_alloc_new _ _⟩
  have HW := Lib.hid (And.intro hw0 (And.intro hg0 x0))
  have KE : Hid (∀ w', Ext w0 w' → LogIn w' ve vp V L ∧ LogBox w' g0 ve vp) := Lib.hid fun w' x => ⟨h.ext (x0.trans x), b0.ext x⟩
  have HI := Lib.hid (h.row.run_idx (P := Try.prog) IEv.und IEv.size .i64)
  have HJ := Lib.hid (h.prow.run_idx (P := Try.prog) IP.und IP.size .i64)
  have l1 := h.row.run_len (P := Try.prog) IEv.und 3
  have l2 := h.prow.run_len (P := Try.prog) IP.und 3
  clear hw0 hg0 x0 b0 h
  go_enter Try.func14, Try.ntmps14
  go_upto_region 1 with fail
  rw [← HW.out.1, ← HW.out.2.1]
  clear s1 s2
  go_wp2_with fail
  refine (first15_any _).mono ?_
  rintro e w1 ⟨rfl, x1⟩
  obtain ⟨c0, c1⟩ := (KE.out _ x1).2.cells
  go_wp2_with fail
  refine (few_any _ _ _ V L (KE.out _ x1).1 60 (by decide)).mono ?_
  rintro r w2 ⟨⟨r, rfl, hf⟩, y2⟩
  have X2 : Ext w0 w2 := x1.trans y2
  clear c0 c1
  obtain ⟨c0, c1⟩ := (KE.out _ X2).2.cells
  cases r with
  | false =>
    clear hf
    go_wp2_with fail
    refine (first15_any _).mono ?_
    rintro e w3 ⟨rfl, x3⟩
    go_wp2_with fail
    go_ret
    exact ⟨rfl, (HW.out.2.2.trans X2).trans x3⟩
  | true =>
    have HS : Hid (L.ev.length ≤ 60 ∧ L.pr.length ≤ 60 ∧ ∀ i, i < L.ev.length → (evn L.ev i).rd.length ≤ 20000 ∧ (evn L.ev i).wr.length ≤ 20000 ∧ (evn L.ev i).fr.length ≤ 20000) := Lib.hid (hf rfl)
    have hle : (L.ev.length : Int) ≤ 60 := by have := HS.out.1; omega
    have hle2 : (L.pr.length : Int) ≤ 60 := by have := HS.out.2.1; omega
    clear hf
    go_wp2_with fail
    refine (may_any _ ve vp V L (KE.out _ X2).1).mono ?_
    rintro e w3 ⟨rfl, y3⟩
    have X3 : Ext w0 w3 := X2.trans y3
    clear c0 c1
    obtain ⟨c0, c1⟩ := (KE.out _ X3).2.cells
    cases hm : mayL L with
    | false =>
      clear hm
      go_wp2_with fail
      refine (first15_any _).mono ?_
      rintro e w4 ⟨rfl, x4⟩
      go_wp2_with fail
      go_ret
      exact ⟨rfl, (HW.out.2.2.trans X3).trans x4⟩
    | true =>
      have HM := Lib.hid hm
      clear hm
      rcases (by omega : a < 0 ∨ (0 ≤ a ∧ b ≤ a) ∨ (0 ≤ a ∧ a < b ∧ (L.ev.length : Int) ≤ b) ∨ (0 ≤ a ∧ a < b ∧ b < (L.ev.length : Int))) with z1 | ⟨z1, z2⟩ | ⟨z1, z2, z3⟩ | ⟨z1, z2, z3⟩
      case inl =>
        go_wp2_with fail
        refine (first15_any _).mono ?_
        rintro e w4 ⟨rfl, x4⟩
        go_wp2_with fail
        go_ret
        exact ⟨rfl, (HW.out.2.2.trans X3).trans x4⟩
      case inr.inl =>
        have z1' : ¬ a < 0 := by omega
        go_wp2_with fail
        refine (first15_any _).mono ?_
        rintro e w4 ⟨rfl, x4⟩
        go_wp2_with fail
        go_ret
        exact ⟨rfl, (HW.out.2.2.trans X3).trans x4⟩
      case inr.inr.inl =>
        have z1' : ¬ a < 0 := by omega
        have z2' : ¬ b ≤ a := by omega
        go_wp2_with fail
        refine (first15_any _).mono ?_
        rintro e w4 ⟨rfl, x4⟩
        go_wp2_with fail
        go_ret
        exact ⟨rfl, (HW.out.2.2.trans X3).trans x4⟩
      obtain ⟨a, rfl⟩ := Int.eq_ofNat_of_zero_le z1
      obtain ⟨b, rfl⟩ := Int.eq_ofNat_of_zero_le (by omega : 0 ≤ b)
      have z2' : ¬ (b : Int) ≤ (a : Int) := by omega
      have z3' : ¬ (L.ev.length : Int) ≤ (b : Int) := by omega
      have HAB : Hid (a < b ∧ b < L.ev.length) := Lib.hid (by omega)
      go_wp2_with fail
      refine (head_any _ ve vp V L (KE.out _ X3).1 (L.ev.length : Int) (i64_len (KE.out _ X3).1.row) ⟨by have := HS.out.1; omega, by have := HS.out.2.1; omega, HS.out.2.2⟩).mono ?_
      rintro r wh ⟨hv, pv, V5, rfl, oh, yh, fh⟩
      have lh := head_in (KE.out _ X3).1 oh
      rw [head_all HM.out _ (Int.le_refl _)] at oh fh lh
      have k1 := Sl.cells_eq lh.row
      have k2 := Sl.cells_eq lh.prow
      have t1 := Sl.run_st (P := Try.prog) lh.row
      have t2 := Sl.run_st (P := Try.prog) lh.prow
      have HH := Lib.hid (And.intro oh (And.intro yh (And.intro fh lh)))
      clear oh yh fh lh c0 c1
      go_upto_region 6 with fail
      obtain ⟨wm, hwm⟩ : ∃ wm, wm = wh.alloc (.cells #[hv, pv] 25) := ⟨_, rfl⟩
      obtain ⟨gm, hgm⟩ : ∃ g, g = wh.heap.size := ⟨_, rfl⟩
      have xm : Ext wh wm := by rw [hwm]; exact (Mod.refl _ _).alloc _
      have bm : wm.heap[gm]? = some (.cells #[hv, pv] 25 (0, 0)) := by rw [hwm, hgm]; exact heap_alloc_new _ _
      rw [← hwm, ← hgm]
      have HMB := Lib.hid (And.intro xm (And.intro bm hgm))
      have d0 : wm.cell? ⟨gm, 0, none⟩ = some hv := by simp [World.cell?, bm]
      have d1 : wm.cell? ⟨gm, 1, none⟩ = some pv := by simp [World.cell?, bm]
      clear hwm hgm xm bm t1 t2
      go_upto_region 7 with (at_builtin; go_loud (refine wpList_app IP rfl (.tmp 46) (.tmp 50) rfl ((HH.out.1.prow.ext HMB.out.1).ext (Mod.alloc (Mod.refl _ _) _)) (built_sl (n := 1) (g := wm.heap.size) (e := 32) (cs := #[.int .i64 (a : Int), .int .i64 (b : Int)]) (by simp only [heap_alloc_if, if_true]) rfl (by simp only [maxLen]; omega)) (one2i _ _) (by simp [Act.eval]) (by simp [Act.eval]) (by omega) (by simp only [maxLen]; omega) ?_); intro pv9 w9 ol9 gr9 fr9 nn9; obtain ⟨la9, lc9, hlv9, _⟩ := ol9.sl.shape; subst hlv9; have M9 : Mod (fun q => pv.ownBlock = some q) wm w9 := Mod.grown (Mod.alloc (Mod.refl _ _) _) gr9 (fun q h => .inl h); have z5 := M9.blk HMB.out.2.1 (fun h => (HH.out.1.prow.ext HMB.out.1).apart_obj HMB.out.2.1 (by decide) h); have c9 : w9.cell? ⟨gm, 1, none⟩ = some pv := (by simp [World.cell?, z5]); have f9 : w9.frozen? ⟨gm, 1, none⟩ = false := (by simp [World.frozen?, z5]); have H9 := Lib.hid (And.intro ol9 (And.intro fr9 M9)); clear ol9 gr9 fr9 nn9 M9 z5)
      clear c9 f9 d0 d1
      obtain ⟨wz, hwz⟩ : ∃ wz, wz = w9.setCell ⟨gm, 1, none⟩ (.slice la9 (L.pr.length + 1) lc9) := ⟨_, rfl⟩
      rw [← hwz]
      obtain ⟨pv9, hpv9⟩ : ∃ v, v = Value.slice la9 (L.pr.length + 1) lc9 := ⟨_, rfl⟩
      rw [← hpv9] at hwz
      have HPV := Lib.hid hpv9
      have HZP : Hid (Ext w3 wz ∧ LogIn wz hv pv9 V5 (pairL L a b) ∧ LogBox wz gm hv pv9) := Lib.hid (by
        obtain ⟨ol9, fr9, M9⟩ := H9.out
        rw [← hpv9] at ol9
        obtain ⟨P1, P2⟩ := head_push (p := ((a : Int), (b : Int))) HMB.out.2.1 (HH.out.1.ext HMB.out.1) M9 ol9
        rw [← hwz] at P1 P2
        have hsz := HH.out.2.1.size
        refine ⟨((HH.out.2.1.trans HMB.out.1).trans' M9 (fun q hq => .inr (HH.out.2.2.1 _ (.inr (.inl hq))))).trans' (by rw [hwz]; exact Mod.setCell (F := fun q => q = gm) (Mod.refl _ _) (.inl rfl) _) (fun q hq => .inr (by have := HMB.out.2.2; omega)), P2.in_ (fun i hi => HH.out.2.2.2.ev i hi |>.ok) (fun i hi => ?_), ⟨P1⟩⟩
        show I64 (prn (L.pr ++ [((a : Int), (b : Int))]) i).1 ∧ I64 (prn (L.pr ++ [((a : Int), (b : Int))]) i).2
        by_cases e : i < L.pr.length
        · rw [prn_snoc_lt e]; exact HH.out.2.2.2.pok i e
        · obtain rfl : i = L.pr.length := by have h2 : i < (L.pr ++ [((a : Int), (b : Int))]).length := hi; simp at h2; omega
          rw [prn_snoc]
          have h1 := HAB.out
          have h2 := HS.out.1
          constructor <;> (unfold I64; dsimp only; omega))
      have HZ : Hid (Ext w3 wz) := Lib.hid HZP.out.1
      have KZ : Hid (∀ w', Ext wz w' → LogIn w' hv pv9 V5 (pairL L a b) ∧ LogBox w' gm hv pv9) := Lib.hid fun w' x => ⟨HZP.out.2.1.ext x, HZP.out.2.2.ext x⟩
      clear hwz hpv9
      have KF : Hid (∀ w', Ext wz w' → w'.cell? ⟨g0, 0, none⟩ = some ve ∧ w'.cell? ⟨g0, 1, none⟩ = some vp ∧ w'.cell? ⟨gm, 0, none⟩ = some hv ∧ w'.cell? ⟨gm, 1, none⟩ = some pv9) := Lib.hid fun w' x => ⟨(KE.out _ (X3.trans (HZ.out.trans x))).2.cells.1, (KE.out _ (X3.trans (HZ.out.trans x))).2.cells.2, (KZ.out _ x).2.cells.1, (KZ.out _ x).2.cells.2⟩
      refine wp_region_plan [(0, true), (2, true), (1, false), (3, false), (4, true), (5, true)] (fun w' => w'.cell? ⟨g0, 0, none⟩ = some ve ∧ w'.cell? ⟨g0, 1, none⟩ = some vp ∧ w'.cell? ⟨gm, 0, none⟩ = some hv ∧ w'.cell? ⟨gm, 1, none⟩ = some pv9) (by kernel_rfl) (by kernel_rfl) (by kernel_rfl) (fun _ d _ _ _ h => by cases d <;> exact h) (KF.out _ (Mod.drew (Mod.refl _ _))) ?_
      simp only [planL, getO]
      iterate 2 (refine plan_take (v := ?_) (by rfl) (fun wS hS => ?_) ?_; rotate_left; (focus ((try dsimp only at hS); go_simp; (try with_reducible rfl); done)); (try simp only [Act.put, List.setIfInBounds_toArray, List.set_cons_zero, List.set_cons_succ]))
      refine plan_call (fun K hK => ?_)
      go_simp
      go_at_call 17; refine (rbefore_any _ ve vp V L (KE.out _ (X3.trans (HZ.out.trans (Mod.drew (Mod.refl _ _))))).1 (by have := HS.out.1; omega)).mono ?_; rintro e w4 h4; obtain ⟨p4, rfl, r4, y4⟩ := rpost_is h4; have E4 : Ext wz w4 := Mod.trans (Mod.drew (Mod.refl _ _)) y4; rw [relN_may HM.out] at r4; have HR4 := Lib.hid r4; clear h4 r4
      refine hK.out _ _ (KF.out _ E4) ?_
      clear hK K
      (try simp only [Act.put, List.setIfInBounds_toArray, List.set_cons_zero, List.set_cons_succ])
      refine plan_call (fun K hK => ?_)
      go_simp
      go_at_call 17; refine (rbefore_any _ hv pv9 V5 (pairL L a b) (KZ.out _ E4).1 (by have := HS.out.1; show L.ev.length ≤ 64; omega)).mono ?_; rintro e w6 h6; obtain ⟨p6, rfl, r6, y6⟩ := rpost_is h6; have E6 : Ext wz w6 := Mod.trans E4 y6; rw [relN_may (pair_may HM.out (by have := HS.out.2.1; omega) HAB.out.1 HAB.out.2), show (pairL L a b).ev.length = L.ev.length from rfl] at r6; have HR6 := Lib.hid r6; clear h6 r6
      refine hK.out _ _ (KF.out _ E6) ?_
      clear hK K
      (try simp only [Act.put, List.setIfInBounds_toArray, List.set_cons_zero, List.set_cons_succ])
      iterate 2 (refine plan_take (v := ?_) (by rfl) (fun wS hS => ?_) ?_; rotate_left; (focus ((try dsimp only at hS); go_simp; (try with_reducible rfl); done)); (try simp only [Act.put, List.setIfInBounds_toArray, List.set_cons_zero, List.set_cons_succ]))
      refine plan_nil ?_
      have KR : Hid (∀ w', Ext w6 w' → RelIs w' (.pointer (some ⟨p4, 0, none⟩)) L.ev.length (hbB L) ∧ RelIs w' (.pointer (some ⟨p6, 0, none⟩)) L.ev.length (hbB (pairL L a b))) := Lib.hid fun w' x => ⟨HR4.out.ext (y6.trans x), HR6.out.ext x⟩
      have HX6 := Lib.hid (X3.trans (HZ.out.trans E6))
      have HPL : Hid (∀ x y, hbB (pairL L a b) x y = (hbB L x y || ((decide (x = a) || hbB L x a) && (decide (y = b) || hbB L b y)))) := Lib.hid (pair_hb HAB.out.1 HAB.out.2)
      clear z1 z2 z3 z2' z3'
      go_wp2_with fail
      refine (has_any _ _ _ _ (KR.out _ (Mod.refl _ _)).2 a b).mono ?_
      rintro e w7 ⟨rfl, y7⟩
      rw [hasB_nat (Nat.lt_trans HAB.out.1 HAB.out.2) HAB.out.2, HPL.out a b, show (hbB L a b || ((decide (a = a) || hbB L a a) && (decide (b = b) || hbB L b b))) = true by simp]
      have HX7 := Lib.hid y7
      clear y7
      go_wp2_with fail
      go_loopw [10] (fun s wr => ∃ x : Nat, x ≤ L.ev.length ∧ s = .int .i64 (x : Int) ∧ Ext w6 wr) (fun s _ => L.ev.length - (intOf s).toNat)
      case atStart => exact ⟨0, Nat.zero_le _, rfl, HX7.out⟩
      case round =>
        obtain ⟨x, hx, rfl, x0⟩ := hrel
        have XA := Lib.hid x0
        obtain ⟨c0, c1⟩ := (KE.out _ (HX6.out.trans x0)).2.cells
        clear x0
        by_cases hlt : x < L.ev.length
        · have hlt' : (x : Int) < (L.ev.length : Int) := by omega
          go_wp2_with fail
          clear c0 c1
          go_loopw [11] (fun s wr => ∃ y : Nat, y ≤ L.ev.length ∧ s = .int .i64 (y : Int) ∧ Ext w6 wr) (fun s _ => L.ev.length - (intOf s).toNat)
          case atStart => exact ⟨0, Nat.zero_le _, rfl, XA.out⟩
          case round =>
            obtain ⟨y, hy, rfl, x0⟩ := hrel
            have XW := Lib.hid x0
            obtain ⟨c0, c1⟩ := (KE.out _ (HX6.out.trans x0)).2.cells
            clear x0
            by_cases hbl : y < L.ev.length
            · have hbl' : (y : Int) < (L.ev.length : Int) := by omega
              obtain ⟨H, hH⟩ : ∃ H, H = hbB L x y := ⟨_, rfl⟩
              have HHD := Lib.hid hH.symm
              have HL0 : Hid (hbB (pairL L a b) x y = (H || ((decide (x = a) || hbB L x a) && (decide (y = b) || hbB L b y)))) := Lib.hid (by rw [HPL.out x y, hH])
              clear hH
              by_cases hxa : x = a
              · have hx2 : ((x : Int) == (a : Int)) = true := by simp; omega
                have HT1 : Hid ((decide (x = a) || hbB L x a) = true) := Lib.hid (by simp [hxa])
                clear hxa
                by_cases hyb : y = b
                · subst hyb
                  have hy2 : ((y : Int) == (y : Int)) = true := by simp
                  have HLAW : Hid (hbB (pairL L a y) x y = (H || true)) := Lib.hid (by rw [HL0.out, HT1.out]; simp)
                  go_wp2_with fail
                  refine (has_any _ _ _ _ (KR.out _ XW.out).2 x y).mono ?_
                  rintro e v8 ⟨rfl, z3⟩
                  have XV8 := Lib.hid (XW.out.trans z3)
                  rw [hasB_nat hlt hbl, HLAW.out]
                  clear z3
                  go_wp2_with fail
                  refine (has_any _ _ _ _ (KR.out _ XV8.out).1 x y).mono ?_
                  rintro e v9 ⟨rfl, z3⟩
                  have XV9 := Lib.hid (XV8.out.trans z3)
                  rw [hasB_nat hlt hbl, HHD.out]
                  clear z3
                  cases H with
                  | true =>
                    go_wp2_with fail
                    go_roundw
                    case rel => exact ⟨y + 1, by omega, by go_num, XV9.out⟩
                    case measure => simp [intOf]; omega
                  | false =>
                    go_wp2_with fail
                    go_roundw
                    case rel => exact ⟨y + 1, by omega, by go_num, XV9.out⟩
                    case measure => simp [intOf]; omega
                · have hy2 : ((y : Int) == (b : Int)) = false := by simp; omega
                  obtain ⟨T2, hT2⟩ : ∃ T, T = hbB L b y := ⟨_, rfl⟩
                  have HLAW : Hid (hbB (pairL L a b) x y = (H || T2)) := Lib.hid (by rw [HL0.out, HT1.out, hT2]; simp [hyb])
                  have HT2 := Lib.hid hT2.symm
                  clear hT2 hyb
                  go_wp2_with fail
                  refine (has_any _ _ _ _ (KR.out _ XW.out).1 b y).mono ?_
                  rintro e v7 ⟨rfl, z3⟩
                  have XV7 := Lib.hid (XW.out.trans z3)
                  rw [hasB_nat HAB.out.2 hbl, HT2.out]
                  clear z3
                  cases T2 with
                  | true =>
                    go_wp2_with fail
                    refine (has_any _ _ _ _ (KR.out _ XV7.out).2 x y).mono ?_
                    rintro e v8 ⟨rfl, z3⟩
                    have XV8 := Lib.hid (XV7.out.trans z3)
                    rw [hasB_nat hlt hbl, HLAW.out]
                    clear z3
                    go_wp2_with fail
                    refine (has_any _ _ _ _ (KR.out _ XV8.out).1 x y).mono ?_
                    rintro e v9 ⟨rfl, z3⟩
                    have XV9 := Lib.hid (XV8.out.trans z3)
                    rw [hasB_nat hlt hbl, HHD.out]
                    clear z3
                    cases H with
                    | true =>
                      go_wp2_with fail
                      go_roundw
                      case rel => exact ⟨y + 1, by omega, by go_num, XV9.out⟩
                      case measure => simp [intOf]; omega
                    | false =>
                      go_wp2_with fail
                      go_roundw
                      case rel => exact ⟨y + 1, by omega, by go_num, XV9.out⟩
                      case measure => simp [intOf]; omega
                  | false =>
                    go_wp2_with fail
                    refine (has_any _ _ _ _ (KR.out _ XV7.out).2 x y).mono ?_
                    rintro e v8 ⟨rfl, z3⟩
                    have XV8 := Lib.hid (XV7.out.trans z3)
                    rw [hasB_nat hlt hbl, HLAW.out]
                    clear z3
                    go_wp2_with fail
                    refine (has_any _ _ _ _ (KR.out _ XV8.out).1 x y).mono ?_
                    rintro e v9 ⟨rfl, z3⟩
                    have XV9 := Lib.hid (XV8.out.trans z3)
                    rw [hasB_nat hlt hbl, HHD.out]
                    clear z3
                    cases H with
                    | true =>
                      go_wp2_with fail
                      go_roundw
                      case rel => exact ⟨y + 1, by omega, by go_num, XV9.out⟩
                      case measure => simp [intOf]; omega
                    | false =>
                      go_wp2_with fail
                      go_roundw
                      case rel => exact ⟨y + 1, by omega, by go_num, XV9.out⟩
                      case measure => simp [intOf]; omega
              · have hx2 : ((x : Int) == (a : Int)) = false := by simp; omega
                obtain ⟨T1, hT1⟩ : ∃ T, T = hbB L x a := ⟨_, rfl⟩
                have HT1 : Hid ((decide (x = a) || hbB L x a) = T1) := Lib.hid (by rw [hT1]; simp [hxa])
                have HT1' := Lib.hid hT1.symm
                clear hT1 hxa
                go_wp2_with fail
                refine (has_any _ _ _ _ (KR.out _ XW.out).1 x a).mono ?_
                rintro e v6 ⟨rfl, z3⟩
                have XV6 := Lib.hid (XW.out.trans z3)
                rw [hasB_nat hlt (Nat.lt_trans HAB.out.1 HAB.out.2), HT1'.out]
                clear z3
                cases T1 with
                | true =>
                  by_cases hyb : y = b
                  · subst hyb
                    have hy2 : ((y : Int) == (y : Int)) = true := by simp
                    have HLAW : Hid (hbB (pairL L a y) x y = (H || true)) := Lib.hid (by rw [HL0.out, HT1.out]; simp)
                    go_wp2_with fail
                    refine (has_any _ _ _ _ (KR.out _ XV6.out).2 x y).mono ?_
                    rintro e v8 ⟨rfl, z3⟩
                    have XV8 := Lib.hid (XV6.out.trans z3)
                    rw [hasB_nat hlt hbl, HLAW.out]
                    clear z3
                    go_wp2_with fail
                    refine (has_any _ _ _ _ (KR.out _ XV8.out).1 x y).mono ?_
                    rintro e v9 ⟨rfl, z3⟩
                    have XV9 := Lib.hid (XV8.out.trans z3)
                    rw [hasB_nat hlt hbl, HHD.out]
                    clear z3
                    cases H with
                    | true =>
                      go_wp2_with fail
                      go_roundw
                      case rel => exact ⟨y + 1, by omega, by go_num, XV9.out⟩
                      case measure => simp [intOf]; omega
                    | false =>
                      go_wp2_with fail
                      go_roundw
                      case rel => exact ⟨y + 1, by omega, by go_num, XV9.out⟩
                      case measure => simp [intOf]; omega
                  · have hy2 : ((y : Int) == (b : Int)) = false := by simp; omega
                    obtain ⟨T2, hT2⟩ : ∃ T, T = hbB L b y := ⟨_, rfl⟩
                    have HLAW : Hid (hbB (pairL L a b) x y = (H || T2)) := Lib.hid (by rw [HL0.out, HT1.out, hT2]; simp [hyb])
                    have HT2 := Lib.hid hT2.symm
                    clear hT2 hyb
                    go_wp2_with fail
                    refine (has_any _ _ _ _ (KR.out _ XV6.out).1 b y).mono ?_
                    rintro e v7 ⟨rfl, z3⟩
                    have XV7 := Lib.hid (XV6.out.trans z3)
                    rw [hasB_nat HAB.out.2 hbl, HT2.out]
                    clear z3
                    cases T2 with
                    | true =>
                      go_wp2_with fail
                      refine (has_any _ _ _ _ (KR.out _ XV7.out).2 x y).mono ?_
                      rintro e v8 ⟨rfl, z3⟩
                      have XV8 := Lib.hid (XV7.out.trans z3)
                      rw [hasB_nat hlt hbl, HLAW.out]
                      clear z3
                      go_wp2_with fail
                      refine (has_any _ _ _ _ (KR.out _ XV8.out).1 x y).mono ?_
                      rintro e v9 ⟨rfl, z3⟩
                      have XV9 := Lib.hid (XV8.out.trans z3)
                      rw [hasB_nat hlt hbl, HHD.out]
                      clear z3
                      cases H with
                      | true =>
                        go_wp2_with fail
                        go_roundw
                        case rel => exact ⟨y + 1, by omega, by go_num, XV9.out⟩
                        case measure => simp [intOf]; omega
                      | false =>
                        go_wp2_with fail
                        go_roundw
                        case rel => exact ⟨y + 1, by omega, by go_num, XV9.out⟩
                        case measure => simp [intOf]; omega
                    | false =>
                      go_wp2_with fail
                      refine (has_any _ _ _ _ (KR.out _ XV7.out).2 x y).mono ?_
                      rintro e v8 ⟨rfl, z3⟩
                      have XV8 := Lib.hid (XV7.out.trans z3)
                      rw [hasB_nat hlt hbl, HLAW.out]
                      clear z3
                      go_wp2_with fail
                      refine (has_any _ _ _ _ (KR.out _ XV8.out).1 x y).mono ?_
                      rintro e v9 ⟨rfl, z3⟩
                      have XV9 := Lib.hid (XV8.out.trans z3)
                      rw [hasB_nat hlt hbl, HHD.out]
                      clear z3
                      cases H with
                      | true =>
                        go_wp2_with fail
                        go_roundw
                        case rel => exact ⟨y + 1, by omega, by go_num, XV9.out⟩
                        case measure => simp [intOf]; omega
                      | false =>
                        go_wp2_with fail
                        go_roundw
                        case rel => exact ⟨y + 1, by omega, by go_num, XV9.out⟩
                        case measure => simp [intOf]; omega
                | false =>
                  have HLAW : Hid (hbB (pairL L a b) x y = (H || false)) := Lib.hid (by rw [HL0.out, HT1.out]; simp)
                  go_wp2_with fail
                  refine (has_any _ _ _ _ (KR.out _ XV6.out).2 x y).mono ?_
                  rintro e v8 ⟨rfl, z3⟩
                  have XV8 := Lib.hid (XV6.out.trans z3)
                  rw [hasB_nat hlt hbl, HLAW.out]
                  clear z3
                  go_wp2_with fail
                  refine (has_any _ _ _ _ (KR.out _ XV8.out).1 x y).mono ?_
                  rintro e v9 ⟨rfl, z3⟩
                  have XV9 := Lib.hid (XV8.out.trans z3)
                  rw [hasB_nat hlt hbl, HHD.out]
                  clear z3
                  cases H with
                  | true =>
                    go_wp2_with fail
                    go_roundw
                    case rel => exact ⟨y + 1, by omega, by go_num, XV9.out⟩
                    case measure => simp [intOf]; omega
                  | false =>
                    go_wp2_with fail
                    go_roundw
                    case rel => exact ⟨y + 1, by omega, by go_num, XV9.out⟩
                    case measure => simp [intOf]; omega
            · have hbl' : ¬ (y : Int) < (L.ev.length : Int) := by omega
              go_wp2_with fail
              go_roundw
              case rel => exact ⟨x + 1, by omega, by go_num, XW.out⟩
              case measure => simp [intOf]; omega
        · have hlt' : ¬ (x : Int) < (L.ev.length : Int) := by omega
          go_wp2_with fail
          refine (first15_any _).mono ?_
          rintro e w8 ⟨rfl, y8⟩
          go_wp2_with fail
          go_ret
          exact ⟨rfl, HW.out.2.2.trans (HX6.out.trans (XA.out.trans y8))⟩
end Go.Proofs.Ytkibdabbjbcboaa
