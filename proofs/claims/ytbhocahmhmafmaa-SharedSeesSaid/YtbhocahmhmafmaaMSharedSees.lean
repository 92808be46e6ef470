/-
  SharedSees: the walk of renlaw20.SharedSees. No condition.
-/
import Derived.Test.YtbhocahmhmafmaaMShPlayed
import Derived.Test.YtbhocahmhmafmaaMShFirst
import Derived.Test.YtbhocahmhmafmaaMShView
import Derived.Test.YtbhocahmhmafmaaMBlkAt
namespace Go.Proofs.Ytbhocahmhmafmaa
open Go.Ren Go.RowKit
set_option linter.unusedVariables false
theorem fresh_from {w w1 w2 : World} {g : Nat} {s : Shm} (x : Ext w w1) (h : FreshSh w1 w2 g s) : FreshSh w w2 g s := by
  obtain ⟨⟨z, e1, e2, e3⟩, e4⟩ := h
  exact ⟨⟨z, e1, e2, fun k hk => Nat.le_trans x.size (e3 k hk)⟩, x.trans e4⟩
theorem ints_nil (w : World) : IntsAt w (.slice none 0 0) [] := ⟨(Own.nil w 3 1).sl, fun x hx => by cases hx⟩
set_option maxRecDepth 100000 in
set_option maxHeartbeats 6400000 in
theorem sees20_all (w : World) (n r : Int) (v : Value) (l : List Op20) (hv : Ops20 w v l) :
    Calls Try.prog 5 #[.int .i64 n, .int .i64 r, v] w fun e w' => e = .returned (.bool true) ∧ Ext w w' := by
  obtain ⟨xs, hs⟩ := hv.len
  have ll := hs.run_len (P := Try.prog) IO20.und 3
  have HI := Lib.hid (hs.run_idx (P := Try.prog) IO20.und IO20.size .i64)
  have HV := Lib.hid hv
  clear hv hs
  go_enter Try.func5, Try.ntmps5
  go_wp2_with fail
  refine (first20_any _).mono ?_
  rintro e w1 ⟨rfl, x1⟩
  have H1 := Lib.hid x1
  clear x1
  go_wp2_with fail
  refine (played_any _ n r _ [] (ops20_nil _)).mono ?_
  rintro e w2 ⟨hA, hB⟩
  by_cases hc : 1 ≤ n ∧ n ≤ 64 ∧ 0 ≤ r ∧ r ≤ 64
  case neg =>
    obtain ⟨rfl, x2⟩ := hB hc
    have H2 := Lib.hid (H1.out.trans x2)
    clear hA hB x2 hc
    go_wp2_with fail
    refine (first20_any _).mono ?_
    rintro e w9 ⟨rfl, x9⟩
    go_wp2_with fail
    go_ret
    exact ⟨rfl, H2.out.trans x9⟩
  case pos =>
    obtain ⟨g, rfl, h2⟩ := hA hc
    obtain ⟨N, rfl⟩ : ∃ N : Nat, n = (N : Int) := ⟨n.toNat, by omega⟩
    obtain ⟨R, rfl⟩ : ∃ R : Nat, r = (R : Int) := ⟨r.toNat, by omega⟩
    rw [Int.toNat_natCast, Int.toNat_natCast] at h2
    have HNR : Hid (1 ≤ N ∧ N ≤ 64 ∧ R ≤ 64) := Lib.hid ⟨by omega, by omega, by omega⟩
    have H2 : Hid (FreshSh w w2 g (shTwo N R)) := Lib.hid (fresh_from H1.out h2)
    clear hA hB hc h2
    go_wp2_with fail
    refine (few20_any _ v l (HV.out.ext H2.out.x)).mono ?_
    rintro e w3 ⟨⟨rr, rfl, hfew⟩, x3⟩
    have HP3 := Lib.hid (H2.out.ext x3)
    have HFEW0 := Lib.hid hfew
    clear x3 hfew
    cases rr with
    | false =>
      go_wp2_with fail
      refine (first20_any _).mono ?_
      rintro e w9 ⟨rfl, x9⟩
      go_wp2_with fail
      go_ret
      exact ⟨rfl, HP3.out.x.trans x9⟩
    | true =>
      have HFEW := Lib.hid (HFEW0.out rfl)
      clear HFEW0
      go_wp2_with fail
      go_loopw [8] (fun s8 wr => ∃ k : Nat, k ≤ l.length ∧ s8 = .int .i64 (k : Int) ∧ FreshSh w wr g (shRun (shTwo N R) (l.take k))) (fun i _ => l.length - (intOf i).toNat)
      case atStart => exact ⟨0, Nat.zero_le _, rfl, HP3.out⟩
      case round =>
        obtain ⟨k, hk, rfl, hf⟩ := hrel
        have HF := Lib.hid hf
        have HL60 := HFEW.out
        clear hf
        by_cases hlt : k < l.length
        · have hlt' : (k : Int) < (l.length : Int) := by omega
          have i1 := HI.out k hlt
          obtain ⟨u, hu, b0, bb⟩ := HV.out.cells hlt
          obtain ⟨o, ho⟩ : ∃ o, o = l[k] := ⟨_, rfl⟩
          obtain ⟨A, hA⟩ : ∃ A, A = at_ v (k * 11) := ⟨_, rfl⟩
          have HS : Hid (shRun (shTwo N R) (l.take (k + 1)) = (shAct (shRun (shTwo N R) (l.take k)) o).2) := Lib.hid (by rw [ho]; exact run_take hlt)
          rw [← hA] at i1 b0 bb
          rw [← ho] at hu b0 bb
          have KC : Hid (∀ w', Ext w w' → w'.cell? A = some (.int .i64 o.kind) ∧ w'.cell? ⟨A.block, A.off + 1, none⟩ = some (.int .i64 o.ag) ∧ w'.cell? ⟨A.block, A.off + 2, none⟩ = some (.int .i64 o.blk) ∧ w'.cell? ⟨A.block, A.off + 3, none⟩ = some (.int .i64 o.at_) ∧ w'.cell? ⟨A.block, A.off + 4, none⟩ = some (.int .i64 o.size) ∧ w'.cell? ⟨A.block, A.off + 5, none⟩ = some (.int .i64 o.op) ∧ w'.cell? ⟨A.block, A.off + 6, none⟩ = some (.bool o.seq) ∧ w'.cell? ⟨A.block, A.off + 7, none⟩ = some (.bool o.nt) ∧ w'.cell? ⟨A.block, A.off + 8, none⟩ = some (.int .u64 (o.word : Int)) ∧ w'.cell? ⟨A.block, A.off + 9, none⟩ = some (.int .u64 (o.want : Int)) ∧ w'.cell? ⟨A.block, A.off + 10, none⟩ = some u) := Lib.hid fun w' x =>
            ⟨Ext.cell x b0, Ext.cell x (bb 1 _ (by decide) rfl), Ext.cell x (bb 2 _ (by decide) rfl), Ext.cell x (bb 3 _ (by decide) rfl), Ext.cell x (bb 4 _ (by decide) rfl), Ext.cell x (bb 5 _ (by decide) rfl), Ext.cell x (bb 6 _ (by decide) rfl), Ext.cell x (bb 7 _ (by decide) rfl), Ext.cell x (bb 8 _ (by decide) rfl), Ext.cell x (bb 9 _ (by decide) rfl), Ext.cell x (bb 10 _ (by decide) rfl)⟩
          have HU := Lib.hid hu
          have HSR : Hid ((shAct (shRun (shTwo N R) (l.take k)) o).2.room = R) := Lib.hid ((act_nr _ o).2.trans (run_nr _ _).2)
          clear hu b0 bb ho hA
          obtain ⟨c0, c1, c2, c3, c4, c5, c6, c7, c8, c9, c10⟩ := KC.out _ HF.out.x
          go_wp2_with fail
          refine (fr_act HF.out o u (HU.out.ext HF.out.x)).mono ?_
          rintro e w5 ⟨rfl, h5⟩
          obtain ⟨S', hSE⟩ : ∃ S', S' = (shAct (shRun (shTwo N R) (l.take k)) o).2 := ⟨_, rfl⟩
          obtain ⟨E, hEE⟩ : ∃ E, E = (shAct (shRun (shTwo N R) (l.take k)) o).1.2 := ⟨_, rfl⟩
          obtain ⟨ag, hag⟩ : ∃ a, a = o.ag := ⟨_, rfl⟩
          obtain ⟨kd, hkd⟩ : ∃ a, a = o.kind := ⟨_, rfl⟩
          obtain ⟨sq, hsq⟩ : ∃ a, a = o.seq := ⟨_, rfl⟩
          rw [← hSE] at h5 HSR
          rw [← hEE]
          have H5 := Lib.hid h5
          have HSE := Lib.hid hSE
          clear c0 c1 c2 c3 c4 c5 c6 c7 c8 c9 c10
          obtain ⟨c0, c1, -, -, -, -, c6, -⟩ := KC.out _ h5.x
          rw [← hkd] at c0
          rw [← hag] at c1
          rw [← hsq] at c6
          have HK4 := Lib.hid (And.intro hEE (And.intro hag (And.intro hkd hsq)))
          clear h5 hSE hEE hag hkd hsq
          by_cases hE : E = 0
          case neg =>
            have hE' : (E == 0) = false := by simpa using hE
            clear hE
            go_wp2_with fail
            go_loopw [13] (fun s13 wz => ∃ a : Nat, a ≤ N ∧ s13 = .int .i64 (a : Int) ∧ FreshSh w wz g S') (fun i _ => N - (intOf i).toNat)
            case atStart => exact ⟨0, Nat.zero_le _, rfl, H5.out⟩
            case round =>
              obtain ⟨a, ha, rfl, hz⟩ := hrel
              have HZ := Lib.hid hz
              clear hz
              by_cases han : a < N
              · have han' : (a : Int) < (N : Int) := by omega
                have hn64 : (N : Int) ≤ 64 := by have := HNR.out; omega
                have HPL := Lib.hid (pend_le HZ.out.ok (a : Int))
                obtain ⟨P, hP⟩ : ∃ P, P = shPend S' (a : Int) := ⟨_, rfl⟩
                have hple : ¬ (R : Int) < (P : Int) := by have h1 := HPL.out; have h2 := HSR.out; rw [hP]; omega
                go_wp2_with fail
                refine (fr_pend HZ.out (a : Int)).mono ?_
                rintro e w7 ⟨rfl, rfl⟩
                rw [← hP]
                clear hP
                go_wp2_with fail
                go_roundw
                case rel => exact ⟨a + 1, by omega, by go_num, HZ.out⟩
                case measure => simp [intOf]; omega
              · have han' : ¬ (a : Int) < (N : Int) := by omega
                go_wp2_with fail
                go_roundw
                case rel => exact ⟨k + 1, by omega, by go_num, by rw [HS.out, ← HSE.out]; exact HZ.out⟩
                case measure => simp [intOf]; omega
          case pos =>
            have hE' : (E == 0) = true := by simpa using hE
            have HDR : Hid (drains o → quB S' ag = []) := Lib.hid (by intro hd; rw [HSE.out, HK4.out.2.1]; exact act_drains HF.out.ok o hd (by rw [← HK4.out.1]; exact hE))
            have HKD := Lib.hid HK4.out.2.2
            clear hE
            rcases (by omega : kd = 2 ∨ kd = 3 ∨ kd = 4 ∨ kd = 0 ∨ kd = 1 ∨ (kd < 0 ∨ 4 < kd)) with rfl | rfl | rfl | rfl | rfl | hk5
            · have hd : drains o := .inl HKD.out.1.symm
              go_wp2_with fail
              refine (fr_pend H5.out ag).mono ?_
              rintro e w6 ⟨rfl, rfl⟩
              rw [pend_of (HDR.out hd)]
              clear hd
              go_wp2_with fail
              go_loopw [13] (fun s13 wz => ∃ a : Nat, a ≤ N ∧ s13 = .int .i64 (a : Int) ∧ FreshSh w wz g S') (fun i _ => N - (intOf i).toNat)
              case atStart => exact ⟨0, Nat.zero_le _, rfl, H5.out⟩
              case round =>
                obtain ⟨a, ha, rfl, hz⟩ := hrel
                have HZ := Lib.hid hz
                clear hz
                by_cases han : a < N
                · have han' : (a : Int) < (N : Int) := by omega
                  have hn64 : (N : Int) ≤ 64 := by have := HNR.out; omega
                  have HPL := Lib.hid (pend_le HZ.out.ok (a : Int))
                  obtain ⟨P, hP⟩ : ∃ P, P = shPend S' (a : Int) := ⟨_, rfl⟩
                  have hple : ¬ (R : Int) < (P : Int) := by have h1 := HPL.out; have h2 := HSR.out; rw [hP]; omega
                  go_wp2_with fail
                  refine (fr_pend HZ.out (a : Int)).mono ?_
                  rintro e w7 ⟨rfl, rfl⟩
                  rw [← hP]
                  clear hP
                  go_wp2_with fail
                  go_roundw
                  case rel => exact ⟨a + 1, by omega, by go_num, HZ.out⟩
                  case measure => simp [intOf]; omega
                · have han' : ¬ (a : Int) < (N : Int) := by omega
                  go_wp2_with fail
                  go_roundw
                  case rel => exact ⟨k + 1, by omega, by go_num, by rw [HS.out, ← HSE.out]; exact HZ.out⟩
                  case measure => simp [intOf]; omega
            · have hd : drains o := .inr (.inl HKD.out.1.symm)
              go_wp2_with fail
              refine (fr_pend H5.out ag).mono ?_
              rintro e w6 ⟨rfl, rfl⟩
              rw [pend_of (HDR.out hd)]
              clear hd
              go_wp2_with fail
              go_loopw [13] (fun s13 wz => ∃ a : Nat, a ≤ N ∧ s13 = .int .i64 (a : Int) ∧ FreshSh w wz g S') (fun i _ => N - (intOf i).toNat)
              case atStart => exact ⟨0, Nat.zero_le _, rfl, H5.out⟩
              case round =>
                obtain ⟨a, ha, rfl, hz⟩ := hrel
                have HZ := Lib.hid hz
                clear hz
                by_cases han : a < N
                · have han' : (a : Int) < (N : Int) := by omega
                  have hn64 : (N : Int) ≤ 64 := by have := HNR.out; omega
                  have HPL := Lib.hid (pend_le HZ.out.ok (a : Int))
                  obtain ⟨P, hP⟩ : ∃ P, P = shPend S' (a : Int) := ⟨_, rfl⟩
                  have hple : ¬ (R : Int) < (P : Int) := by have h1 := HPL.out; have h2 := HSR.out; rw [hP]; omega
                  go_wp2_with fail
                  refine (fr_pend HZ.out (a : Int)).mono ?_
                  rintro e w7 ⟨rfl, rfl⟩
                  rw [← hP]
                  clear hP
                  go_wp2_with fail
                  go_roundw
                  case rel => exact ⟨a + 1, by omega, by go_num, HZ.out⟩
                  case measure => simp [intOf]; omega
                · have han' : ¬ (a : Int) < (N : Int) := by omega
                  go_wp2_with fail
                  go_roundw
                  case rel => exact ⟨k + 1, by omega, by go_num, by rw [HS.out, ← HSE.out]; exact HZ.out⟩
                  case measure => simp [intOf]; omega
            · have hd : drains o := .inr (.inr (.inl HKD.out.1.symm))
              go_wp2_with fail
              refine (fr_pend H5.out ag).mono ?_
              rintro e w6 ⟨rfl, rfl⟩
              rw [pend_of (HDR.out hd)]
              clear hd
              go_wp2_with fail
              go_loopw [13] (fun s13 wz => ∃ a : Nat, a ≤ N ∧ s13 = .int .i64 (a : Int) ∧ FreshSh w wz g S') (fun i _ => N - (intOf i).toNat)
              case atStart => exact ⟨0, Nat.zero_le _, rfl, H5.out⟩
              case round =>
                obtain ⟨a, ha, rfl, hz⟩ := hrel
                have HZ := Lib.hid hz
                clear hz
                by_cases han : a < N
                · have han' : (a : Int) < (N : Int) := by omega
                  have hn64 : (N : Int) ≤ 64 := by have := HNR.out; omega
                  have HPL := Lib.hid (pend_le HZ.out.ok (a : Int))
                  obtain ⟨P, hP⟩ : ∃ P, P = shPend S' (a : Int) := ⟨_, rfl⟩
                  have hple : ¬ (R : Int) < (P : Int) := by have h1 := HPL.out; have h2 := HSR.out; rw [hP]; omega
                  go_wp2_with fail
                  refine (fr_pend HZ.out (a : Int)).mono ?_
                  rintro e w7 ⟨rfl, rfl⟩
                  rw [← hP]
                  clear hP
                  go_wp2_with fail
                  go_roundw
                  case rel => exact ⟨a + 1, by omega, by go_num, HZ.out⟩
                  case measure => simp [intOf]; omega
                · have han' : ¬ (a : Int) < (N : Int) := by omega
                  go_wp2_with fail
                  go_roundw
                  case rel => exact ⟨k + 1, by omega, by go_num, by rw [HS.out, ← HSE.out]; exact HZ.out⟩
                  case measure => simp [intOf]; omega
            · cases sq with
              | true =>
                have hd : drains o := .inr (.inr (.inr ⟨.inl HKD.out.1.symm, HKD.out.2.symm⟩))
                go_wp2_with fail
                refine (fr_pend H5.out ag).mono ?_
                rintro e w6 ⟨rfl, rfl⟩
                rw [pend_of (HDR.out hd)]
                clear hd
                go_wp2_with fail
                go_loopw [13] (fun s13 wz => ∃ a : Nat, a ≤ N ∧ s13 = .int .i64 (a : Int) ∧ FreshSh w wz g S') (fun i _ => N - (intOf i).toNat)
                case atStart => exact ⟨0, Nat.zero_le _, rfl, H5.out⟩
                case round =>
                  obtain ⟨a, ha, rfl, hz⟩ := hrel
                  have HZ := Lib.hid hz
                  clear hz
                  by_cases han : a < N
                  · have han' : (a : Int) < (N : Int) := by omega
                    have hn64 : (N : Int) ≤ 64 := by have := HNR.out; omega
                    have HPL := Lib.hid (pend_le HZ.out.ok (a : Int))
                    obtain ⟨P, hP⟩ : ∃ P, P = shPend S' (a : Int) := ⟨_, rfl⟩
                    have hple : ¬ (R : Int) < (P : Int) := by have h1 := HPL.out; have h2 := HSR.out; rw [hP]; omega
                    go_wp2_with fail
                    refine (fr_pend HZ.out (a : Int)).mono ?_
                    rintro e w7 ⟨rfl, rfl⟩
                    rw [← hP]
                    clear hP
                    go_wp2_with fail
                    go_roundw
                    case rel => exact ⟨a + 1, by omega, by go_num, HZ.out⟩
                    case measure => simp [intOf]; omega
                  · have han' : ¬ (a : Int) < (N : Int) := by omega
                    go_wp2_with fail
                    go_roundw
                    case rel => exact ⟨k + 1, by omega, by go_num, by rw [HS.out, ← HSE.out]; exact HZ.out⟩
                    case measure => simp [intOf]; omega
              | false =>
                go_wp2_with fail
                go_loopw [13] (fun s13 wz => ∃ a : Nat, a ≤ N ∧ s13 = .int .i64 (a : Int) ∧ FreshSh w wz g S') (fun i _ => N - (intOf i).toNat)
                case atStart => exact ⟨0, Nat.zero_le _, rfl, H5.out⟩
                case round =>
                  obtain ⟨a, ha, rfl, hz⟩ := hrel
                  have HZ := Lib.hid hz
                  clear hz
                  by_cases han : a < N
                  · have han' : (a : Int) < (N : Int) := by omega
                    have hn64 : (N : Int) ≤ 64 := by have := HNR.out; omega
                    have HPL := Lib.hid (pend_le HZ.out.ok (a : Int))
                    obtain ⟨P, hP⟩ : ∃ P, P = shPend S' (a : Int) := ⟨_, rfl⟩
                    have hple : ¬ (R : Int) < (P : Int) := by have h1 := HPL.out; have h2 := HSR.out; rw [hP]; omega
                    go_wp2_with fail
                    refine (fr_pend HZ.out (a : Int)).mono ?_
                    rintro e w7 ⟨rfl, rfl⟩
                    rw [← hP]
                    clear hP
                    go_wp2_with fail
                    go_roundw
                    case rel => exact ⟨a + 1, by omega, by go_num, HZ.out⟩
                    case measure => simp [intOf]; omega
                  · have han' : ¬ (a : Int) < (N : Int) := by omega
                    go_wp2_with fail
                    go_roundw
                    case rel => exact ⟨k + 1, by omega, by go_num, by rw [HS.out, ← HSE.out]; exact HZ.out⟩
                    case measure => simp [intOf]; omega
            · cases sq with
              | true =>
                have hd : drains o := .inr (.inr (.inr ⟨.inr HKD.out.1.symm, HKD.out.2.symm⟩))
                go_wp2_with fail
                refine (fr_pend H5.out ag).mono ?_
                rintro e w6 ⟨rfl, rfl⟩
                rw [pend_of (HDR.out hd)]
                clear hd
                go_wp2_with fail
                go_loopw [13] (fun s13 wz => ∃ a : Nat, a ≤ N ∧ s13 = .int .i64 (a : Int) ∧ FreshSh w wz g S') (fun i _ => N - (intOf i).toNat)
                case atStart => exact ⟨0, Nat.zero_le _, rfl, H5.out⟩
                case round =>
                  obtain ⟨a, ha, rfl, hz⟩ := hrel
                  have HZ := Lib.hid hz
                  clear hz
                  by_cases han : a < N
                  · have han' : (a : Int) < (N : Int) := by omega
                    have hn64 : (N : Int) ≤ 64 := by have := HNR.out; omega
                    have HPL := Lib.hid (pend_le HZ.out.ok (a : Int))
                    obtain ⟨P, hP⟩ : ∃ P, P = shPend S' (a : Int) := ⟨_, rfl⟩
                    have hple : ¬ (R : Int) < (P : Int) := by have h1 := HPL.out; have h2 := HSR.out; rw [hP]; omega
                    go_wp2_with fail
                    refine (fr_pend HZ.out (a : Int)).mono ?_
                    rintro e w7 ⟨rfl, rfl⟩
                    rw [← hP]
                    clear hP
                    go_wp2_with fail
                    go_roundw
                    case rel => exact ⟨a + 1, by omega, by go_num, HZ.out⟩
                    case measure => simp [intOf]; omega
                  · have han' : ¬ (a : Int) < (N : Int) := by omega
                    go_wp2_with fail
                    go_roundw
                    case rel => exact ⟨k + 1, by omega, by go_num, by rw [HS.out, ← HSE.out]; exact HZ.out⟩
                    case measure => simp [intOf]; omega
              | false =>
                go_wp2_with fail
                go_loopw [13] (fun s13 wz => ∃ a : Nat, a ≤ N ∧ s13 = .int .i64 (a : Int) ∧ FreshSh w wz g S') (fun i _ => N - (intOf i).toNat)
                case atStart => exact ⟨0, Nat.zero_le _, rfl, H5.out⟩
                case round =>
                  obtain ⟨a, ha, rfl, hz⟩ := hrel
                  have HZ := Lib.hid hz
                  clear hz
                  by_cases han : a < N
                  · have han' : (a : Int) < (N : Int) := by omega
                    have hn64 : (N : Int) ≤ 64 := by have := HNR.out; omega
                    have HPL := Lib.hid (pend_le HZ.out.ok (a : Int))
                    obtain ⟨P, hP⟩ : ∃ P, P = shPend S' (a : Int) := ⟨_, rfl⟩
                    have hple : ¬ (R : Int) < (P : Int) := by have h1 := HPL.out; have h2 := HSR.out; rw [hP]; omega
                    go_wp2_with fail
                    refine (fr_pend HZ.out (a : Int)).mono ?_
                    rintro e w7 ⟨rfl, rfl⟩
                    rw [← hP]
                    clear hP
                    go_wp2_with fail
                    go_roundw
                    case rel => exact ⟨a + 1, by omega, by go_num, HZ.out⟩
                    case measure => simp [intOf]; omega
                  · have han' : ¬ (a : Int) < (N : Int) := by omega
                    go_wp2_with fail
                    go_roundw
                    case rel => exact ⟨k + 1, by omega, by go_num, by rw [HS.out, ← HSE.out]; exact HZ.out⟩
                    case measure => simp [intOf]; omega
            · have n0 : (kd == 0) = false := by simp; omega
              have n1 : (kd == 1) = false := by simp; omega
              have n2 : (kd == 2) = false := by simp; omega
              have n3 : (kd == 3) = false := by simp; omega
              have n4 : (kd == 4) = false := by simp; omega
              clear hk5
              go_wp2_with fail
              go_loopw [13] (fun s13 wz => ∃ a : Nat, a ≤ N ∧ s13 = .int .i64 (a : Int) ∧ FreshSh w wz g S') (fun i _ => N - (intOf i).toNat)
              case atStart => exact ⟨0, Nat.zero_le _, rfl, H5.out⟩
              case round =>
                obtain ⟨a, ha, rfl, hz⟩ := hrel
                have HZ := Lib.hid hz
                clear hz
                by_cases han : a < N
                · have han' : (a : Int) < (N : Int) := by omega
                  have hn64 : (N : Int) ≤ 64 := by have := HNR.out; omega
                  have HPL := Lib.hid (pend_le HZ.out.ok (a : Int))
                  obtain ⟨P, hP⟩ : ∃ P, P = shPend S' (a : Int) := ⟨_, rfl⟩
                  have hple : ¬ (R : Int) < (P : Int) := by have h1 := HPL.out; have h2 := HSR.out; rw [hP]; omega
                  go_wp2_with fail
                  refine (fr_pend HZ.out (a : Int)).mono ?_
                  rintro e w7 ⟨rfl, rfl⟩
                  rw [← hP]
                  clear hP
                  go_wp2_with fail
                  go_roundw
                  case rel => exact ⟨a + 1, by omega, by go_num, HZ.out⟩
                  case measure => simp [intOf]; omega
                · have han' : ¬ (a : Int) < (N : Int) := by omega
                  go_wp2_with fail
                  go_roundw
                  case rel => exact ⟨k + 1, by omega, by go_num, by rw [HS.out, ← HSE.out]; exact HZ.out⟩
                  case measure => simp [intOf]; omega
        · have hlt' : ¬ (k : Int) < (l.length : Int) := by omega
          obtain rfl : k = l.length := by omega
          have hf := HF.out
          rw [List.take_length] at hf
          obtain ⟨S, hS⟩ : ∃ S, S = shRun (shTwo N R) l := ⟨_, rfl⟩
          rw [← hS] at hf
          have HFF : Hid (FreshSh w wr g S ∧ S.n = N ∧ S.L.ev.length ≤ 60) := Lib.hid ⟨hf, by rw [hS]; exact (run_nr _ _).1, by rw [hS]; exact run_few l HFEW.out⟩
          clear hf hS
          go_wp2_with fail
          go_loopw [14] (fun s14 wz => ∃ a : Nat, a ≤ N ∧ s14 = .int .i64 (a : Int) ∧ FreshSh w wz g (shSyncs S a)) (fun i _ => N - (intOf i).toNat)
          case atStart => exact ⟨0, Nat.zero_le _, rfl, HFF.out.1⟩
          case round =>
            obtain ⟨a, ha, rfl, hz⟩ := hrel
            have HZ := Lib.hid hz
            clear hz
            by_cases han : a < N
            · have han' : (a : Int) < (N : Int) := by omega
              have hn64 : (N : Int) ≤ 64 := by have := HNR.out; omega
              go_wp2_with fail
              refine (fr_sync HZ.out (a : Int) _ [] (ints_nil _) (by decide)).mono ?_
              rintro e w7 ⟨rfl, h7⟩
              have H7 := Lib.hid h7
              clear h7
              go_wp2_with fail
              go_roundw
              case rel => exact ⟨a + 1, by omega, by go_num, H7.out⟩
              case measure => simp [intOf]; omega
            · have han' : ¬ (a : Int) < (N : Int) := by omega
              obtain rfl : a = N := by omega
              have HFIN : Hid ((shFin (shSyncs S a) (shSyncs S a).n).M = (shSyncs S a).M) := Lib.hid (by
                have h1 := HFF.out
                have h2 := syncs_fin h1.1.ok (by omega)
                have h3 := (syncs_ok h1.1.ok (by omega) S.n (Nat.le_refl _)).2.1
                rw [h1.2.1] at h2 h3
                rw [h3]
                exact h2)
              go_wp2_with fail
              refine (first20_any _).mono ?_
              rintro e w8 ⟨rfl, x8⟩
              have H8 := Lib.hid (HZ.out.ext x8)
              clear x8
              go_wp2_with fail
              refine (fr_bytes H8.out).mono ?_
              rintro e v1 ⟨u1, V1, rfl, r1, x1⟩
              have H9 := Lib.hid (H8.out.ext x1)
              have HR1 := Lib.hid r1
              clear r1 x1
              go_wp2_with fail
              refine (fr_final H9.out).mono ?_
              rintro e v2 ⟨u2, V2, rfl, r2, x2⟩
              rw [HFIN.out] at r2
              have H10 := Lib.hid (H9.out.ext x2)
              have HR2 := Lib.hid (And.intro (HR1.out.ext x2) r2)
              clear r2 x2
              go_wp2_with fail
              refine (sameBytes_any _ _ _ _ _ _ _ HR2.out.1 HR2.out.2 (by have := H10.out.ok.bk.cnt; omega)).mono ?_
              rintro e v3 ⟨rfl, j, rfl⟩
              go_wp2_with fail
              go_ret
              exact ⟨rfl, H10.out.x.trans ((Mod.refl _ _).drewN j)⟩
end Go.Proofs.Ytbhocahmhmafmaa
