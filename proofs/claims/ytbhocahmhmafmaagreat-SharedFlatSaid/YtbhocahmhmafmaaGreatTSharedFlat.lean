/-
  SharedFlat: the walk of renlaw20.SharedFlat. No condition.
-/
import Derived.Test.YtbhocahmhmafmaaGreatTShFresh
import Derived.Test.YtbhocahmhmafmaaGreatTShHb
import Derived.Test.YtbhocahmhmafmaaGreatTElemAt
import Derived.Test.YtbhocahmhmafmaaGreatTRaceUn
import Derived.Test.YtbhocahmhmafmaaGreatTEvSame
import Derived.Test.YtbhocahmhmafmaaGreatTBlkAt
namespace Go.Proofs.YtbhocahmhmafmaaGreat
open Go.Ren Go.RowKit
set_option linter.unusedVariables false
theorem fresh_fromF {w w1 w2 : World} {g : Nat} {s : Shm} (x : Ext w w1) (h : FreshSh w1 w2 g s) : FreshSh w w2 g s := by
 obtain ⟨⟨z, e1, e2, e3⟩, e4⟩ := h
 exact ⟨⟨z, e1, e2, fun k hk => Nat.le_trans x.size (e3 k hk)⟩, x.trans e4⟩
theorem RowsIn.congr {w : World} {v : Value} {V : Nat → Value} {n m : Nat} {L L' : Nat → List UInt8} (h : RowsIn w v V n L) (hn : n = m) (e : ∀ i, i < m → L i = L' i) : RowsIn w v V m L' := by
 subst hn
 exact ⟨h.row, fun i hi => by rw [← e i hi]; exact h.bs i hi⟩
set_option maxRecDepth 100000 in
set_option maxHeartbeats 6400000 in
theorem sharedFlat_all (w : World) (n r : Int) (v : Value) (l : List Op20) (hvv : Ops20 w v l) :
 Calls Tryz.prog 4 #[.int .i64 n, .int .i64 r, v] w fun e w' => e = .returned (.bool true) ∧ Ext w w' := by
 have HV := Lib.hid hvv
 clear hvv
 go_enter Tryz.func4, Tryz.ntmps4
 go_wp2_with fail
 refine (first20_any _).mono ?_
 rintro e w1 ⟨rfl, x1⟩
 have H1 := Lib.hid x1
 clear x1
 go_wp2_with fail
 refine (played_any _ n r v l (HV.out.ext H1.out)).mono ?_
 rintro e w2 ⟨hA, hB⟩
 by_cases hc : 1 ≤ n ∧ n ≤ 64 ∧ 0 ≤ r ∧ r ≤ 64
 case neg =>
  obtain ⟨rfl, x2⟩ := hB hc
  have H2 := Lib.hid (H1.out.trans x2)
  clear hA hB x2 hc
  go_wp2_with fail
  refine (played_any _ n 0 v l (HV.out.ext H2.out)).mono ?_
  rintro e w3 ⟨hA, hB⟩
  by_cases hc : 1 ≤ n ∧ n ≤ 64
  case neg =>
   obtain ⟨rfl, x3⟩ := hB (by omega)
   have H3 := Lib.hid (H2.out.trans x3)
   clear hA hB x3 hc
   go_wp2_with fail
   refine (first20_any _).mono ?_
   rintro e w9 ⟨rfl, x9⟩
   go_wp2_with fail
   go_ret
   exact ⟨rfl, H3.out.trans x9⟩
  case pos =>
   obtain ⟨g, rfl, h3⟩ := hA (by omega)
   have H3 := Lib.hid (H2.out.trans h3.x)
   clear hA hB h3 hc
   go_wp2_with fail
   refine (first20_any _).mono ?_
   rintro e w9 ⟨rfl, x9⟩
   go_wp2_with fail
   go_ret
   exact ⟨rfl, H3.out.trans x9⟩
 case pos =>
  obtain ⟨g, rfl, h2⟩ := hA hc
  obtain ⟨N, rfl⟩ : ∃ N : Nat, n = (N : Int) := ⟨n.toNat, by omega⟩
  obtain ⟨R, rfl⟩ : ∃ R : Nat, r = (R : Int) := ⟨r.toNat, by omega⟩
  rw [Int.toNat_natCast, Int.toNat_natCast] at h2
  have HNR : Hid (1 ≤ N ∧ N ≤ 64 ∧ R ≤ 64) := Lib.hid ⟨by omega, by omega, by omega⟩
  obtain ⟨S, hS⟩ : ∃ S, S = shRun (shTwo N R) l := ⟨_, rfl⟩
  obtain ⟨F, hF⟩ : ∃ F, F = shRun (shTwo N 0) l := ⟨_, rfl⟩
  have HLAW := Lib.hid (flat_law (n := N) (room := R) ⟨by omega, by omega⟩ (by omega) l hS hF)
  have HLEN : Hid (l.length ≤ 60 → S.L.ev.length ≤ 60) := Lib.hid (fun h => by rw [hS]; exact run_few l h)
  have HHF := Lib.hid hF
  rw [← hS] at h2
  have H2 : Hid (FreshSh w w2 g S) := Lib.hid (fresh_fromF H1.out h2)
  clear hA hB hc h2 hS hF
  go_wp2_with fail
  refine (played_any _ (N : Int) 0 v l (HV.out.ext H2.out.x)).mono ?_
  rintro e w3 ⟨hA, -⟩
  obtain ⟨g2, rfl, h3⟩ := hA (by have := HNR.out; omega)
  rw [Int.toNat_natCast, show (0 : Int).toNat = 0 from rfl, ← HHF.out] at h3
  have H3 : Hid (FreshSh w w3 g S ∧ FreshSh w w3 g2 F) := Lib.hid ⟨H2.out.ext h3.x, fresh_fromF H2.out.x h3⟩
  clear hA h3
  go_wp2_with fail
  refine (few20_any _ v l (HV.out.ext H3.out.1.x)).mono ?_
  rintro e w4 ⟨⟨rr, rfl, hfew⟩, x4⟩
  have H4 : Hid (FreshSh w w4 g S ∧ FreshSh w w4 g2 F) := Lib.hid ⟨H3.out.1.ext x4, H3.out.2.ext x4⟩
  have HFEW := Lib.hid hfew
  clear x4 hfew
  cases rr with
  | false =>
   go_wp2_with fail
   refine (first20_any _).mono ?_
   rintro e w9 ⟨rfl, x9⟩
   go_wp2_with fail
   go_ret
   exact ⟨rfl, H4.out.1.x.trans x9⟩
  | true =>
   have HL60 := Lib.hid (HLEN.out (HFEW.out rfl))
   clear HFEW HLEN
   go_wp2_with fail
   go_loopw [9] (fun s9 wz => ∃ a : Nat, a ≤ N ∧ s9 = .int .i64 (a : Int) ∧ Ext w4 wz) (fun i _ => N - (intOf i).toNat)
   case atStart => exact ⟨0, Nat.zero_le _, rfl, Mod.refl _ _⟩
   case round =>
    obtain ⟨a, ha, rfl, xz⟩ := hrel
    have HZ : Hid (FreshSh w wr g S ∧ FreshSh w wr g2 F ∧ Ext w4 wr) := Lib.hid ⟨H4.out.1.ext xz, H4.out.2.ext xz, xz⟩
    clear xz
    by_cases han : a < N
    · have han' : (a : Int) < (N : Int) := by omega
      have hn64 : (N : Int) ≤ 64 := by have := HNR.out; omega
      have HPL := Lib.hid (pend_le HZ.out.1.ok (a : Int))
      obtain ⟨P, hP⟩ : ∃ P, P = shPend S (a : Int) := ⟨_, rfl⟩
      have hple : ¬ (R : Int) < (P : Int) := by have h1 := HPL.out; have h2 := HLAW.out.2.2.2.2.1; rw [hP]; omega
      have HP := Lib.hid hP
      clear hP
      go_wp2_with fail
      refine (fr_pend HZ.out.2.1 (a : Int)).mono ?_
      rintro e w7 ⟨rfl, rfl⟩
      rw [HLAW.out.1]
      go_wp2_with fail
      refine (fr_pend HZ.out.1 (a : Int)).mono ?_
      rintro e w7 ⟨rfl, rfl⟩
      rw [← HP.out]
      go_wp2_with fail
      go_roundw
      case rel => exact ⟨a + 1, by omega, by go_num, HZ.out.2.2⟩
      case measure => simp [intOf]; omega
    · have han' : ¬ (a : Int) < (N : Int) := by omega
      go_wp2_with fail
      refine (fr_log HZ.out.1).mono ?_
      rintro e w5 ⟨hv1, pv1, V1, rfl, lo1, x5, -⟩
      obtain ⟨la1, lc1, hhv, -⟩ := lo1.row.sl.shape
      obtain ⟨la2, lc2, hpv, -⟩ := lo1.prow.sl.shape
      subst hhv hpv
      have H5 := Lib.hid (And.intro lo1 x5)
      have HF5 := Lib.hid (HZ.out.2.1.ext x5)
      clear lo1 x5
      go_wp2_with fail
      refine (fr_log HF5.out).mono ?_
      rintro e w6 ⟨hv2, pv2, V2, rfl, lo2, x6, -⟩
      obtain ⟨la3, lc3, hhv, -⟩ := lo2.row.sl.shape
      obtain ⟨la4, lc4, hpv, -⟩ := lo2.prow.sl.shape
      subst hhv hpv
      have H6 := Lib.hid (And.intro (H5.out.1.ext x6) (And.intro lo2 (H5.out.2.trans x6)))
      clear lo2 x6
      go_upto_region 12 with fail
      obtain ⟨M, hM⟩ : ∃ M, M = S.L.ev.length := ⟨_, rfl⟩
      have hMF : F.L.ev.length = M := by rw [hM]; exact HLAW.out.2.1.symm
      have h6 := H6.out
      rw [hMF] at h6 ⊢
      rw [← hM] at h6 ⊢
      obtain ⟨ve, hve⟩ : ∃ v, v = Value.slice la1 M lc1 := ⟨_, rfl⟩
      obtain ⟨vp, hvp⟩ : ∃ v, v = Value.slice la2 S.L.pr.length lc2 := ⟨_, rfl⟩
      obtain ⟨ue, hue⟩ : ∃ v, v = Value.slice la3 M lc3 := ⟨_, rfl⟩
      obtain ⟨up, hup⟩ : ∃ v, v = Value.slice la4 F.L.pr.length lc4 := ⟨_, rfl⟩
      rw [← hve, ← hvp, ← hue, ← hup] at h6 ⊢
      obtain ⟨w10, hw10⟩ : ∃ W, W = (w6.alloc (.cells #[ve, vp] 48)).alloc (.cells #[ue, up] 48) := ⟨_, rfl⟩
      obtain ⟨g9, hg9⟩ : ∃ g, g = w6.heap.size := ⟨_, rfl⟩
      have x10 : Ext w6 w10 := by rw [hw10]; exact ((Mod.refl _ _).alloc _).alloc _
      have bx : LogBox w10 g9 ve vp := ⟨by rw [hw10, hg9]; exact heap_alloc2_old _ _ _⟩
      have by_ : LogBox w10 (g9 + 1) ue up := ⟨by rw [hw10, hg9]; exact heap_alloc2_new _ _ _⟩
      rw [← hw10, ← hg9]
      have li := (log_in h6.1 HZ.out.1.ok).ext x10
      have lj := (log_in h6.2.1 HZ.out.2.1.ok).ext x10
      have H10 : Hid (FreshSh w w10 g S ∧ FreshSh w w10 g2 F) := Lib.hid ⟨HZ.out.1.ext (h6.2.2.trans x10), HZ.out.2.1.ext (h6.2.2.trans x10)⟩
      obtain ⟨c0, c1⟩ := bx.cells
      obtain ⟨d0, d1⟩ := by_.cells
      have q1 := li.row.cells_eq
      have q2 := li.prow.cells_eq
      have q3 := lj.row.cells_eq
      have q4 := lj.prow.cells_eq
      have ln := li.row.run_len (P := Tryz.prog) IEv.und 3
      have lm := lj.row.run_len (P := Tryz.prog) IEv.und 3
      rw [hMF] at lm
      rw [← hM] at ln
      have KE : Hid (∀ w', Ext w10 w' → LogIn w' ve vp V1 S.L ∧ LogIn w' ue up V2 F.L ∧ w'.cell? ⟨g9, 0, none⟩ = some ve ∧ w'.cell? ⟨g9, 1, none⟩ = some vp ∧ w'.cell? ⟨g9 + 1, 0, none⟩ = some ue ∧ w'.cell? ⟨g9 + 1, 1, none⟩ = some up) := Lib.hid fun w' x => ⟨li.ext x, lj.ext x, (bx.ext x).cells.1, (bx.ext x).cells.2, (by_.ext x).cells.1, (by_.ext x).cells.2⟩
      clear hve hvp hue hup hw10 hg9 x10 bx by_ li lj h6 hM hMF han han' ha
      go_wp2_with fail
      refine (fr_bytes H10.out.2).mono ?_
      rintro e v1 ⟨u1, W1, rfl, r1, y1⟩
      have HR1 := Lib.hid (And.intro r1 y1)
      clear r1 y1 c0 c1 d0 d1
      go_wp2_with fail
      refine (fr_final (H10.out.2.ext HR1.out.2)).mono ?_
      rintro e v2 ⟨u2, W2, rfl, r2, y2⟩
      rw [HLAW.out.2.2.2.2.2.1] at r2
      have HR2 := Lib.hid (And.intro (HR1.out.1.ext y2) (And.intro r2 (HR1.out.2.trans y2)))
      clear r2 y2
      go_wp2_with fail
      refine (sameBytes_any _ _ _ _ _ _ _ HR2.out.1 HR2.out.2.1 (by have := H10.out.2.ok.bk.cnt; omega)).mono ?_
      rintro e v3 ⟨rfl, j, rfl⟩
      have X3 : Hid (Ext w10 (v2.drewN j)) := Lib.hid (HR2.out.2.2.trans ((Mod.refl _ _).drewN j))
      clear HR1 HR2
      go_wp2_with fail
      refine (first20_any _).mono ?_
      rintro e v4 ⟨rfl, x4⟩
      have X4 := Lib.hid (X3.out.trans x4)
      clear x4
      obtain ⟨-, -, c0, c1, -, -⟩ := KE.out _ X4.out
      go_wp2_with fail
      refine (conflicts_any _ ve vp V1 S.L (KE.out _ X4.out).1 (by have := HL60.out; omega)).mono ?_
      rintro e v5 ⟨cv, rfl, oc, x5, -⟩
      have lc := oc.sl.run_len (P := Tryz.prog) IP.und 3
      have X5 := Lib.hid (X4.out.trans x5)
      clear oc x5 c0 c1
      obtain ⟨-, -, c0, c1, d0, d1⟩ := KE.out _ X5.out
      by_cases hcf : cfL S.L = []
      · have hC := HLAW.out.2.2.2.2.2.2.2.2 hcf
        rw [hcf] at lc
        simp only [List.length_nil, Int.natCast_zero] at lc
        have HC := Lib.hid hC
        have HS2 : Hid (lgSame S.L F.L = true) := Lib.hid (lgSame_iff.2 hC.1)
        clear hC hcf
        go_wp2_with fail
        refine (lsame_any _ ve vp ue up V1 V2 S.L F.L (KE.out _ X5.out).1 (KE.out _ X5.out).2.1).mono ?_
        rintro e v6 ⟨rfl, x6⟩
        rw [HS2.out]
        have X6 := Lib.hid (X5.out.trans x6)
        clear x6 c0 c1 d0 d1
        go_wp2_with fail
        refine (fr_final (H10.out.1.ext X6.out)).mono ?_
        rintro e v7 ⟨u3, W3, rfl, r3, y3⟩
        have HR3 := Lib.hid (And.intro (r3.congr HLAW.out.2.2.2.2.2.2.2.1 HC.out.2) (X6.out.trans y3))
        clear r3 y3
        go_wp2_with fail
        refine (fr_bytes (H10.out.2.ext HR3.out.2)).mono ?_
        rintro e v8 ⟨u4, W4, rfl, r4, y4⟩
        have HR4 := Lib.hid (And.intro (HR3.out.1.ext y4) (And.intro r4 (HR3.out.2.trans y4)))
        clear r4 y4
        go_wp2_with fail
        refine (sameBytes_any _ _ _ _ _ _ _ HR4.out.1 HR4.out.2.1 (by have := H10.out.2.ok.bk.cnt; omega)).mono ?_
        rintro e v9 ⟨rfl, j2, rfl⟩
        go_wp2_with fail
        go_ret
        exact ⟨rfl, H10.out.1.x.trans (HR4.out.2.2.trans ((Mod.refl _ _).drewN j2))⟩
      · have hpos : (0 : Int) < ((cfL S.L).length : Int) := by have := List.length_pos_iff.2 hcf; omega
        obtain ⟨C, hC⟩ : ∃ C, C = ((cfL S.L).length : Int) := ⟨_, rfl⟩
        rw [← hC] at lc hpos
        clear hC hcf
        go_wp2_with fail
        go_ret
        exact ⟨rfl, H10.out.1.x.trans X5.out⟩
end Go.Proofs.YtbhocahmhmafmaaGreat
