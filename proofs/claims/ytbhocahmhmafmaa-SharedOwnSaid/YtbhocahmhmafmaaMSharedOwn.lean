/-
  SharedOwn: the walk of renlaw20.SharedOwn. No condition.
-/
import Derived.Test.YtbhocahmhmafmaaMShPlayed
import Derived.Test.YtbhocahmhmafmaaMShFirst
import Derived.Test.YtbhocahmhmafmaaMShView
import Derived.Test.YtbhocahmhmafmaaMBlkAt
namespace Go.Proofs.Ytbhocahmhmafmaa
open Go.Ren Go.RowKit
set_option linter.unusedVariables false
set_option maxRecDepth 100000 in
set_option maxHeartbeats 3200000 in
theorem own20_all (w : World) (r : Int) (v : Value) (l : List Op20) (pa size : Int) (wd : Nat) (hv : Ops20 w v l) (hp : I64 pa) (hs : I64 size) (hw : wd < 18446744073709551616) :
    Calls Try.prog 3 #[.int .i64 r, v, .int .i64 pa, .int .i64 size, .int .u64 (wd : Int)] w fun e w' => e = .returned (.bool true) ∧ Ext w w' := by
  have HV := Lib.hid hv
  have HWD := Lib.hid hw
  have HI := Lib.hid (And.intro hp hs)
  clear hv hw hp hs
  go_enter Try.func3, Try.ntmps3
  go_wp2_with fail
  refine (first20_any _).mono ?_
  rintro e w1 ⟨rfl, x1⟩
  have H1 := Lib.hid x1
  clear x1
  go_wp2_with fail
  refine (played_any _ 1 r v l (HV.out.ext H1.out)).mono ?_
  rintro e w2 ⟨hA, hB⟩
  by_cases hc : 0 ≤ r ∧ r ≤ 64
  case neg =>
    obtain ⟨rfl, x2⟩ := hB (by omega)
    have H2 := Lib.hid (H1.out.trans x2)
    clear hA hB x2 hc
    go_wp2_with fail
    refine (first20_any _).mono ?_
    rintro e w9 ⟨rfl, x9⟩
    go_wp2_with fail
    go_ret
    exact ⟨rfl, H2.out.trans x9⟩
  case pos =>
    obtain ⟨g, rfl, h2⟩ := hA (by omega)
    obtain ⟨R, hR⟩ : ∃ R, R = r.toNat := ⟨_, rfl⟩
    have HR : Hid (R = r.toNat ∧ R ≤ 64) := Lib.hid ⟨hR, by omega⟩
    have h3 : FreshSh w1 w2 g (shRun (shTwo 1 R) l) := by rw [hR]; exact h2
    have H2 : Hid (FreshSh w w2 g (shRun (shTwo 1 R) l)) := Lib.hid (by
      obtain ⟨⟨z, e1, e2, e3⟩, e4⟩ := h3
      exact ⟨⟨z, e1, e2, fun k hk => Nat.le_trans H1.out.size (e3 k hk)⟩, H1.out.trans e4⟩)
    clear hA hB hc h2 h3 hR
    go_wp2_with fail
    refine (few20_any _ v l (HV.out.ext H2.out.x)).mono ?_
    rintro e w3 ⟨⟨rr, rfl, hfew⟩, x3⟩
    have HP3 := Lib.hid (H2.out.ext x3)
    have HFEW0 := Lib.hid hfew
    clear x3 hfew
    cases rr with
    | false =>
      go_wp2_with fail
      refine (first20_any _).mono ?_
      rintro e w9 ⟨rfl, x9⟩
      go_wp2_with fail
      go_ret
      exact ⟨rfl, HP3.out.x.trans x9⟩
    | true =>
      have HFEW := Lib.hid (HFEW0.out rfl)
      clear HFEW0
      by_cases hg : size = 1 ∨ size = 2 ∨ size = 4 ∨ size = 8
      case neg =>
        have b1 : (size != 1) = true := by simp; omega
        have b2 : (size != 2) = true := by simp; omega
        have b4 : (size != 4) = true := by simp; omega
        have b8 : (size != 8) = true := by simp; omega
        clear hg
        go_wp2_with fail
        refine (first20_any _).mono ?_
        rintro e w9 ⟨rfl, x9⟩
        go_wp2_with fail
        go_ret
        exact ⟨rfl, HP3.out.x.trans x9⟩
      case pos =>
        rcases hg with rfl | rfl | rfl | rfl
        · by_cases z1 : 0 ≤ pa
          · by_cases z2 : pa ≤ 15
            · have y1 : ¬ pa < 0 := by omega
              have y2 : ¬ (15 : Int) < pa := by omega
              have AL := own_all (s := shRun (shTwo 1 R) l) HR.out.2 l HFEW.out rfl (a := pa) (size := 1) (by decide) z1 (by omega) wd
              obtain ⟨S, hS⟩ : ∃ S, S = shRun (shTwo 1 R) l := ⟨_, rfl⟩
              rw [← hS] at AL
              rw [show wd % 2 ^ (8 * (1 : Int).toNat) = wd % 256 from rfl, show decide ((1 : Int) < 8) = true from rfl] at AL
              have HP : Hid (FreshSh w w3 g S) := Lib.hid (by rw [hS]; exact HP3.out)
              have HA := Lib.hid AL
              clear AL hS HP3
              go_wp2_with fail
              refine (fr_store HP.out 0 0 pa 1 wd HWD.out false true).mono ?_
              rintro e v1 ⟨rfl, h⟩
              have H1 : Hid (FreshSh w v1 g (own1 S pa 1 wd)) := Lib.hid h
              rw [HA.out.1]
              clear h
              go_wp2_with fail
              refine (fr_load H1.out 0 0 pa 1 false true).mono ?_
              rintro e v2 ⟨rfl, h⟩
              have H2 : Hid (FreshSh w v2 g (own2 S pa 1 wd)) := Lib.hid h
              rw [HA.out.2.1]
              clear h
              go_wp2_with fail
              refine (fr_tear H2.out 0).mono ?_
              rintro e v3 ⟨rfl, h⟩
              have H3 : Hid (FreshSh w v3 g (own3 S pa 1 wd)) := Lib.hid h
              clear h
              go_wp2_with fail
              refine (fr_load H3.out 0 0 pa 1 false true).mono ?_
              rintro e v4 ⟨rfl, h⟩
              have H4 : Hid (FreshSh w v4 g (own4 S pa 1 wd)) := Lib.hid h
              rw [HA.out.2.2.1]
              clear h
              go_wp2_with fail
              refine (fr_flush H4.out 0).mono ?_
              rintro e v5 ⟨rfl, h⟩
              have H5 : Hid (FreshSh w v5 g (own5 S pa 1 wd)) := Lib.hid h
              clear h
              go_wp2_with fail
              refine (fr_load H5.out 0 0 pa 1 true true).mono ?_
              rintro e v6 ⟨rfl, h⟩
              have H6 : Hid (FreshSh w v6 g (own6 S pa 1 wd)) := Lib.hid h
              rw [HA.out.2.2.2.1]
              clear h
              go_wp2_with fail
              refine (fr_final H6.out).mono ?_
              rintro e v7 ⟨u1, V1, rfl, r1, x7⟩
              rw [HA.out.2.2.2.2.1, HA.out.2.2.2.2.2.2.1] at r1
              have H7 := Lib.hid (H6.out.ext x7)
              have HR1 := Lib.hid r1
              clear r1 x7
              go_wp2_with fail
              refine (fr_bytes H7.out).mono ?_
              rintro e v8 ⟨u2, V2, rfl, r2, x8⟩
              have H8 := Lib.hid (H7.out.ext x8)
              have HR2 := Lib.hid (And.intro (HR1.out.ext x8) r2)
              clear r2 x8
              go_wp2_with fail
              refine (first20_any _).mono ?_
              rintro e v9 ⟨rfl, x9⟩
              have H9 := Lib.hid (H8.out.ext x9)
              have HR3 := Lib.hid (And.intro (HR2.out.1.ext x9) (HR2.out.2.ext x9))
              clear x9
              go_wp2_with fail
              refine (sameBytes_any _ _ _ _ _ _ _ HR3.out.1 HR3.out.2 (by have := HA.out.2.2.2.2.2.2.2.bk.cnt; omega)).mono ?_
              rintro e v10 ⟨rfl, j, rfl⟩
              have H10 : Hid (FreshSh w (v9.drewN j) g (own6 S pa 1 wd)) := Lib.hid (H9.out.ext ((Mod.refl _ _).drewN j))
              go_wp2_with fail
              refine (fr_pend H10.out 0).mono ?_
              rintro e v11 ⟨rfl, rfl⟩
              rw [pend_of HA.out.2.2.2.2.2.1]
              go_wp2_with fail
              go_ret
              exact ⟨rfl, H10.out.x⟩
            · have y1 : ¬ pa < 0 := by omega
              have y2 : (15 : Int) < pa := by omega
              clear z1 z2
              go_wp2_with fail
              refine (first20_any _).mono ?_
              rintro e w9 ⟨rfl, x9⟩
              go_wp2_with fail
              go_ret
              exact ⟨rfl, HP3.out.x.trans x9⟩
          · have y1 : pa < 0 := by omega
            clear z1
            go_wp2_with fail
            refine (first20_any _).mono ?_
            rintro e w9 ⟨rfl, x9⟩
            go_wp2_with fail
            go_ret
            exact ⟨rfl, HP3.out.x.trans x9⟩
        · by_cases z1 : 0 ≤ pa
          · by_cases z2 : pa ≤ 14
            · have y1 : ¬ pa < 0 := by omega
              have y2 : ¬ (14 : Int) < pa := by omega
              have AL := own_all (s := shRun (shTwo 1 R) l) HR.out.2 l HFEW.out rfl (a := pa) (size := 2) (by decide) z1 (by omega) wd
              obtain ⟨S, hS⟩ : ∃ S, S = shRun (shTwo 1 R) l := ⟨_, rfl⟩
              rw [← hS] at AL
              rw [show wd % 2 ^ (8 * (2 : Int).toNat) = wd % 65536 from rfl, show decide ((2 : Int) < 8) = true from rfl] at AL
              have HP : Hid (FreshSh w w3 g S) := Lib.hid (by rw [hS]; exact HP3.out)
              have HA := Lib.hid AL
              clear AL hS HP3
              go_wp2_with fail
              refine (fr_store HP.out 0 0 pa 2 wd HWD.out false true).mono ?_
              rintro e v1 ⟨rfl, h⟩
              have H1 : Hid (FreshSh w v1 g (own1 S pa 2 wd)) := Lib.hid h
              rw [HA.out.1]
              clear h
              go_wp2_with fail
              refine (fr_load H1.out 0 0 pa 2 false true).mono ?_
              rintro e v2 ⟨rfl, h⟩
              have H2 : Hid (FreshSh w v2 g (own2 S pa 2 wd)) := Lib.hid h
              rw [HA.out.2.1]
              clear h
              go_wp2_with fail
              refine (fr_tear H2.out 0).mono ?_
              rintro e v3 ⟨rfl, h⟩
              have H3 : Hid (FreshSh w v3 g (own3 S pa 2 wd)) := Lib.hid h
              clear h
              go_wp2_with fail
              refine (fr_load H3.out 0 0 pa 2 false true).mono ?_
              rintro e v4 ⟨rfl, h⟩
              have H4 : Hid (FreshSh w v4 g (own4 S pa 2 wd)) := Lib.hid h
              rw [HA.out.2.2.1]
              clear h
              go_wp2_with fail
              refine (fr_flush H4.out 0).mono ?_
              rintro e v5 ⟨rfl, h⟩
              have H5 : Hid (FreshSh w v5 g (own5 S pa 2 wd)) := Lib.hid h
              clear h
              go_wp2_with fail
              refine (fr_load H5.out 0 0 pa 2 true true).mono ?_
              rintro e v6 ⟨rfl, h⟩
              have H6 : Hid (FreshSh w v6 g (own6 S pa 2 wd)) := Lib.hid h
              rw [HA.out.2.2.2.1]
              clear h
              go_wp2_with fail
              refine (fr_final H6.out).mono ?_
              rintro e v7 ⟨u1, V1, rfl, r1, x7⟩
              rw [HA.out.2.2.2.2.1, HA.out.2.2.2.2.2.2.1] at r1
              have H7 := Lib.hid (H6.out.ext x7)
              have HR1 := Lib.hid r1
              clear r1 x7
              go_wp2_with fail
              refine (fr_bytes H7.out).mono ?_
              rintro e v8 ⟨u2, V2, rfl, r2, x8⟩
              have H8 := Lib.hid (H7.out.ext x8)
              have HR2 := Lib.hid (And.intro (HR1.out.ext x8) r2)
              clear r2 x8
              go_wp2_with fail
              refine (first20_any _).mono ?_
              rintro e v9 ⟨rfl, x9⟩
              have H9 := Lib.hid (H8.out.ext x9)
              have HR3 := Lib.hid (And.intro (HR2.out.1.ext x9) (HR2.out.2.ext x9))
              clear x9
              go_wp2_with fail
              refine (sameBytes_any _ _ _ _ _ _ _ HR3.out.1 HR3.out.2 (by have := HA.out.2.2.2.2.2.2.2.bk.cnt; omega)).mono ?_
              rintro e v10 ⟨rfl, j, rfl⟩
              have H10 : Hid (FreshSh w (v9.drewN j) g (own6 S pa 2 wd)) := Lib.hid (H9.out.ext ((Mod.refl _ _).drewN j))
              go_wp2_with fail
              refine (fr_pend H10.out 0).mono ?_
              rintro e v11 ⟨rfl, rfl⟩
              rw [pend_of HA.out.2.2.2.2.2.1]
              go_wp2_with fail
              go_ret
              exact ⟨rfl, H10.out.x⟩
            · have y1 : ¬ pa < 0 := by omega
              have y2 : (14 : Int) < pa := by omega
              clear z1 z2
              go_wp2_with fail
              refine (first20_any _).mono ?_
              rintro e w9 ⟨rfl, x9⟩
              go_wp2_with fail
              go_ret
              exact ⟨rfl, HP3.out.x.trans x9⟩
          · have y1 : pa < 0 := by omega
            clear z1
            go_wp2_with fail
            refine (first20_any _).mono ?_
            rintro e w9 ⟨rfl, x9⟩
            go_wp2_with fail
            go_ret
            exact ⟨rfl, HP3.out.x.trans x9⟩
        · by_cases z1 : 0 ≤ pa
          · by_cases z2 : pa ≤ 12
            · have y1 : ¬ pa < 0 := by omega
              have y2 : ¬ (12 : Int) < pa := by omega
              have AL := own_all (s := shRun (shTwo 1 R) l) HR.out.2 l HFEW.out rfl (a := pa) (size := 4) (by decide) z1 (by omega) wd
              obtain ⟨S, hS⟩ : ∃ S, S = shRun (shTwo 1 R) l := ⟨_, rfl⟩
              rw [← hS] at AL
              rw [show wd % 2 ^ (8 * (4 : Int).toNat) = wd % 4294967296 from rfl, show decide ((4 : Int) < 8) = true from rfl] at AL
              have HP : Hid (FreshSh w w3 g S) := Lib.hid (by rw [hS]; exact HP3.out)
              have HA := Lib.hid AL
              clear AL hS HP3
              go_wp2_with fail
              refine (fr_store HP.out 0 0 pa 4 wd HWD.out false true).mono ?_
              rintro e v1 ⟨rfl, h⟩
              have H1 : Hid (FreshSh w v1 g (own1 S pa 4 wd)) := Lib.hid h
              rw [HA.out.1]
              clear h
              go_wp2_with fail
              refine (fr_load H1.out 0 0 pa 4 false true).mono ?_
              rintro e v2 ⟨rfl, h⟩
              have H2 : Hid (FreshSh w v2 g (own2 S pa 4 wd)) := Lib.hid h
              rw [HA.out.2.1]
              clear h
              go_wp2_with fail
              refine (fr_tear H2.out 0).mono ?_
              rintro e v3 ⟨rfl, h⟩
              have H3 : Hid (FreshSh w v3 g (own3 S pa 4 wd)) := Lib.hid h
              clear h
              go_wp2_with fail
              refine (fr_load H3.out 0 0 pa 4 false true).mono ?_
              rintro e v4 ⟨rfl, h⟩
              have H4 : Hid (FreshSh w v4 g (own4 S pa 4 wd)) := Lib.hid h
              rw [HA.out.2.2.1]
              clear h
              go_wp2_with fail
              refine (fr_flush H4.out 0).mono ?_
              rintro e v5 ⟨rfl, h⟩
              have H5 : Hid (FreshSh w v5 g (own5 S pa 4 wd)) := Lib.hid h
              clear h
              go_wp2_with fail
              refine (fr_load H5.out 0 0 pa 4 true true).mono ?_
              rintro e v6 ⟨rfl, h⟩
              have H6 : Hid (FreshSh w v6 g (own6 S pa 4 wd)) := Lib.hid h
              rw [HA.out.2.2.2.1]
              clear h
              go_wp2_with fail
              refine (fr_final H6.out).mono ?_
              rintro e v7 ⟨u1, V1, rfl, r1, x7⟩
              rw [HA.out.2.2.2.2.1, HA.out.2.2.2.2.2.2.1] at r1
              have H7 := Lib.hid (H6.out.ext x7)
              have HR1 := Lib.hid r1
              clear r1 x7
              go_wp2_with fail
              refine (fr_bytes H7.out).mono ?_
              rintro e v8 ⟨u2, V2, rfl, r2, x8⟩
              have H8 := Lib.hid (H7.out.ext x8)
              have HR2 := Lib.hid (And.intro (HR1.out.ext x8) r2)
              clear r2 x8
              go_wp2_with fail
              refine (first20_any _).mono ?_
              rintro e v9 ⟨rfl, x9⟩
              have H9 := Lib.hid (H8.out.ext x9)
              have HR3 := Lib.hid (And.intro (HR2.out.1.ext x9) (HR2.out.2.ext x9))
              clear x9
              go_wp2_with fail
              refine (sameBytes_any _ _ _ _ _ _ _ HR3.out.1 HR3.out.2 (by have := HA.out.2.2.2.2.2.2.2.bk.cnt; omega)).mono ?_
              rintro e v10 ⟨rfl, j, rfl⟩
              have H10 : Hid (FreshSh w (v9.drewN j) g (own6 S pa 4 wd)) := Lib.hid (H9.out.ext ((Mod.refl _ _).drewN j))
              go_wp2_with fail
              refine (fr_pend H10.out 0).mono ?_
              rintro e v11 ⟨rfl, rfl⟩
              rw [pend_of HA.out.2.2.2.2.2.1]
              go_wp2_with fail
              go_ret
              exact ⟨rfl, H10.out.x⟩
            · have y1 : ¬ pa < 0 := by omega
              have y2 : (12 : Int) < pa := by omega
              clear z1 z2
              go_wp2_with fail
              refine (first20_any _).mono ?_
              rintro e w9 ⟨rfl, x9⟩
              go_wp2_with fail
              go_ret
              exact ⟨rfl, HP3.out.x.trans x9⟩
          · have y1 : pa < 0 := by omega
            clear z1
            go_wp2_with fail
            refine (first20_any _).mono ?_
            rintro e w9 ⟨rfl, x9⟩
            go_wp2_with fail
            go_ret
            exact ⟨rfl, HP3.out.x.trans x9⟩
        · by_cases z1 : 0 ≤ pa
          · by_cases z2 : pa ≤ 8
            · have y1 : ¬ pa < 0 := by omega
              have y2 : ¬ (8 : Int) < pa := by omega
              have AL := own_all (s := shRun (shTwo 1 R) l) HR.out.2 l HFEW.out rfl (a := pa) (size := 8) (by decide) z1 (by omega) wd
              obtain ⟨S, hS⟩ : ∃ S, S = shRun (shTwo 1 R) l := ⟨_, rfl⟩
              rw [← hS] at AL
              rw [show wd % 2 ^ (8 * (8 : Int).toNat) = wd from Nat.mod_eq_of_lt HWD.out, show decide ((8 : Int) < 8) = false from rfl] at AL
              have HP : Hid (FreshSh w w3 g S) := Lib.hid (by rw [hS]; exact HP3.out)
              have HA := Lib.hid AL
              clear AL hS HP3
              go_wp2_with fail
              refine (fr_store HP.out 0 0 pa 8 wd HWD.out false false).mono ?_
              rintro e v1 ⟨rfl, h⟩
              have H1 : Hid (FreshSh w v1 g (own1 S pa 8 wd)) := Lib.hid h
              rw [HA.out.1]
              clear h
              go_wp2_with fail
              refine (fr_load H1.out 0 0 pa 8 false true).mono ?_
              rintro e v2 ⟨rfl, h⟩
              have H2 : Hid (FreshSh w v2 g (own2 S pa 8 wd)) := Lib.hid h
              rw [HA.out.2.1]
              clear h
              go_wp2_with fail
              refine (fr_tear H2.out 0).mono ?_
              rintro e v3 ⟨rfl, h⟩
              have H3 : Hid (FreshSh w v3 g (own3 S pa 8 wd)) := Lib.hid h
              clear h
              go_wp2_with fail
              refine (fr_load H3.out 0 0 pa 8 false true).mono ?_
              rintro e v4 ⟨rfl, h⟩
              have H4 : Hid (FreshSh w v4 g (own4 S pa 8 wd)) := Lib.hid h
              rw [HA.out.2.2.1]
              clear h
              go_wp2_with fail
              refine (fr_flush H4.out 0).mono ?_
              rintro e v5 ⟨rfl, h⟩
              have H5 : Hid (FreshSh w v5 g (own5 S pa 8 wd)) := Lib.hid h
              clear h
              go_wp2_with fail
              refine (fr_load H5.out 0 0 pa 8 true true).mono ?_
              rintro e v6 ⟨rfl, h⟩
              have H6 : Hid (FreshSh w v6 g (own6 S pa 8 wd)) := Lib.hid h
              rw [HA.out.2.2.2.1]
              clear h
              go_wp2_with fail
              refine (fr_final H6.out).mono ?_
              rintro e v7 ⟨u1, V1, rfl, r1, x7⟩
              rw [HA.out.2.2.2.2.1, HA.out.2.2.2.2.2.2.1] at r1
              have H7 := Lib.hid (H6.out.ext x7)
              have HR1 := Lib.hid r1
              clear r1 x7
              go_wp2_with fail
              refine (fr_bytes H7.out).mono ?_
              rintro e v8 ⟨u2, V2, rfl, r2, x8⟩
              have H8 := Lib.hid (H7.out.ext x8)
              have HR2 := Lib.hid (And.intro (HR1.out.ext x8) r2)
              clear r2 x8
              go_wp2_with fail
              refine (first20_any _).mono ?_
              rintro e v9 ⟨rfl, x9⟩
              have H9 := Lib.hid (H8.out.ext x9)
              have HR3 := Lib.hid (And.intro (HR2.out.1.ext x9) (HR2.out.2.ext x9))
              clear x9
              go_wp2_with fail
              refine (sameBytes_any _ _ _ _ _ _ _ HR3.out.1 HR3.out.2 (by have := HA.out.2.2.2.2.2.2.2.bk.cnt; omega)).mono ?_
              rintro e v10 ⟨rfl, j, rfl⟩
              have H10 : Hid (FreshSh w (v9.drewN j) g (own6 S pa 8 wd)) := Lib.hid (H9.out.ext ((Mod.refl _ _).drewN j))
              go_wp2_with fail
              refine (fr_pend H10.out 0).mono ?_
              rintro e v11 ⟨rfl, rfl⟩
              rw [pend_of HA.out.2.2.2.2.2.1]
              go_wp2_with fail
              go_ret
              exact ⟨rfl, H10.out.x⟩
            · have y1 : ¬ pa < 0 := by omega
              have y2 : (8 : Int) < pa := by omega
              clear z1 z2
              go_wp2_with fail
              refine (first20_any _).mono ?_
              rintro e w9 ⟨rfl, x9⟩
              go_wp2_with fail
              go_ret
              exact ⟨rfl, HP3.out.x.trans x9⟩
          · have y1 : pa < 0 := by omega
            clear z1
            go_wp2_with fail
            refine (first20_any _).mono ?_
            rintro e w9 ⟨rfl, x9⟩
            go_wp2_with fail
            go_ret
            exact ⟨rfl, HP3.out.x.trans x9⟩
end Go.Proofs.Ytbhocahmhmafmaa
