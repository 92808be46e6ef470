/-
  SharedPlays: the walk of renlaw20.SharedPlays. No condition.
-/
import Derived.Test.YtbhocahmhmafmaaGreatPRsWant
import Derived.Test.YtbhocahmhmafmaaGreatPShFresh
namespace Go.Proofs.YtbhocahmhmafmaaGreat
open Go.Ren Go.RowKit
set_option linter.unusedVariables false
set_option maxRecDepth 100000 in
set_option maxHeartbeats 3200000 in
theorem sharedPlays_all (w : World) (n r : Int) (v : Value) (l : List Op20) (hvv : Ops20 w v l) :
 Calls Tryz.prog 3 #[.int .i64 n, .int .i64 r, v] w fun e w' => e = .returned (.bool true) ∧ Ext w w' := by
 obtain ⟨xs, hs⟩ := hvv.len
 have l0 := hs.run_len (P := Tryz.prog) IO20.und 3
 have HI := Lib.hid (hs.run_idx (P := Tryz.prog) IO20.und IO20.size .i64)
 have HV := Lib.hid hvv
 have hbig : (l.length : Int) ≤ 9223372036854775807 := by
  obtain ⟨a, c, _, h1, h2, h3⟩ := hs.shape
  simp only [maxLen] at h2
  omega
 clear hvv hs
 go_enter Tryz.func3, Tryz.ntmps3
 go_wp2_with fail
 refine (first20_any _).mono ?_
 rintro e w1 ⟨rfl, x1⟩
 have H1 := Lib.hid x1
 clear x1
 go_wp2_with fail
 refine (fr_new _ n r).mono ?_
 rintro e w2 ⟨hA, hB⟩
 by_cases hc : 1 ≤ n ∧ n ≤ 64 ∧ 0 ≤ r ∧ r ≤ 64
 case neg =>
  obtain ⟨rfl, rfl⟩ := hB hc
  have HC := Lib.hid hc
  clear hA hB hc
  go_wp2_with fail
  refine (rsnew_any _ n r).mono ?_
  rintro e w3 ⟨-, hB⟩
  obtain ⟨rfl, rfl⟩ := hB HC.out
  clear hB
  go_wp2_with fail
  refine (first20_any _).mono ?_
  rintro e w9 ⟨rfl, x9⟩
  go_wp2_with fail
  go_ret
  exact ⟨rfl, H1.out.trans x9⟩
 case pos =>
  obtain ⟨gs, rfl, h2⟩ := hA hc
  have HC := Lib.hid hc
  have H2 := Lib.hid h2
  clear hA hB hc h2
  go_wp2_with fail
  refine (rsnew_any _ n r).mono ?_
  rintro e w3 ⟨hA, -⟩
  obtain ⟨zx, rfl, h3, u3, f3⟩ := hA HC.out
  obtain ⟨gx, hgx⟩ : ∃ g, g = zx.g := ⟨_, rfl⟩
  obtain ⟨S0, hS0⟩ : ∃ S, S = shNew n.toNat r.toNat := ⟨_, rfl⟩
  have H3 : Hid (BothSh w1 w3 gs gx S0 S0) := Lib.hid (by rw [hgx, hS0]; exact BothSh.new H2.out h3 u3 f3)
  rw [← hgx]
  clear hA h3 u3 f3 hgx hS0 HC H2
  go_wp2_with fail
  refine (few20_any _ v l (HV.out.ext (H1.out.trans H3.out.x))).mono ?_
  rintro e w4 ⟨⟨rr, rfl, hfew⟩, x4⟩
  have H4 := Lib.hid (H3.out.ext x4)
  have HFEW := Lib.hid hfew
  clear x4 hfew
  cases rr with
  | false =>
   go_wp2_with fail
   refine (first20_any _).mono ?_
   rintro e w9 ⟨rfl, x9⟩
   go_wp2_with fail
   go_ret
   exact ⟨rfl, (H1.out.trans H4.out.x).trans x9⟩
  | true =>
   have hl60 : (l.length : Int) ≤ 60 := by have := HFEW.out rfl; omega
   clear HFEW
   go_wp2_with fail
   go_loopw [7, 11] (fun s7 s11 wr => ∃ k gk : Nat, k ≤ l.length ∧ s7 = ptr gk ∧ s11 = .int .i64 (k : Int) ∧ BothSh w1 wr gk gx (shRun S0 (l.take k)) (shRun S0 (l.take k))) (fun _ i _ => l.length - (intOf i).toNat)
   case atStart => exact ⟨0, gs, Nat.zero_le _, rfl, rfl, H4.out⟩
   case round =>
    obtain ⟨k, gk, hk, rfl, rfl, hf⟩ := hrel
    have HF := Lib.hid hf
    clear hf
    by_cases hlt : k < l.length
    · have hlt' : (k : Int) < (l.length : Int) := by omega
      have i1 := HI.out k hlt
      obtain ⟨u, hu, c0, cc⟩ := HV.out.cells hlt
      obtain ⟨o, ho⟩ : ∃ o, o = l[k] := ⟨_, rfl⟩
      obtain ⟨A, hA⟩ : ∃ A, A = at_ v (k * 11) := ⟨_, rfl⟩
      obtain ⟨S, hS⟩ : ∃ S, S = shRun S0 (l.take k) := ⟨_, rfl⟩
      have HS : Hid (shRun S0 (l.take (k + 1)) = (shAct S o).2) := Lib.hid (by rw [ho, hS]; exact run_take hlt)
      have HFS : Hid (BothSh w1 wr gk gx S S) := Lib.hid (by rw [hS]; exact HF.out)
      rw [← hA] at i1 c0 cc
      rw [← ho] at hu c0 cc
      have KC : Hid (∀ w', Ext w w' → w'.cell? A = some (.int .i64 o.kind) ∧ w'.cell? ⟨A.block, A.off + 1, none⟩ = some (.int .i64 o.ag) ∧ w'.cell? ⟨A.block, A.off + 2, none⟩ = some (.int .i64 o.blk) ∧ w'.cell? ⟨A.block, A.off + 3, none⟩ = some (.int .i64 o.at_) ∧ w'.cell? ⟨A.block, A.off + 4, none⟩ = some (.int .i64 o.size) ∧ w'.cell? ⟨A.block, A.off + 5, none⟩ = some (.int .i64 o.op) ∧
       w'.cell? ⟨A.block, A.off + 6, none⟩ = some (.bool o.seq) ∧ w'.cell? ⟨A.block, A.off + 7, none⟩ = some (.bool o.nt) ∧ w'.cell? ⟨A.block, A.off + 8, none⟩ = some (.int .u64 (o.word : Int)) ∧ w'.cell? ⟨A.block, A.off + 9, none⟩ = some (.int .u64 (o.want : Int)) ∧ w'.cell? ⟨A.block, A.off + 10, none⟩ = some u) := Lib.hid fun w' x =>
       ⟨Ext.cell x c0, Ext.cell x (cc 1 _ (by decide) rfl), Ext.cell x (cc 2 _ (by decide) rfl), Ext.cell x (cc 3 _ (by decide) rfl), Ext.cell x (cc 4 _ (by decide) rfl), Ext.cell x (cc 5 _ (by decide) rfl), Ext.cell x (cc 6 _ (by decide) rfl), Ext.cell x (cc 7 _ (by decide) rfl), Ext.cell x (cc 8 _ (by decide) rfl), Ext.cell x (cc 9 _ (by decide) rfl), Ext.cell x (cc 10 _ (by decide) rfl)⟩
      have HU := Lib.hid hu
      obtain ⟨R, hR⟩ : ∃ R, R = (shAct S o).1.1 := ⟨_, rfl⟩
      obtain ⟨E, hE⟩ : ∃ E, E = (shAct S o).1.2 := ⟨_, rfl⟩
      have HRE := Lib.hid (And.intro hR hE)
      clear hu cc ho hA c0 hS hR hE
      obtain ⟨c0, -⟩ := KC.out _ (H1.out.trans HFS.out.x)
      clear c0
      rcases (by omega : o.kind < 0 ∨ (¬ o.kind < 0 ∧ 7 < o.kind) ∨ (¬ o.kind < 0 ∧ ¬ 7 < o.kind)) with y1 | ⟨y1, y2⟩ | ⟨y1, y2⟩
      case inr.inr =>
       have H7 := HFS
       obtain ⟨gn, hgn⟩ : ∃ g, g = gk := ⟨_, rfl⟩
       rw [← hgn] at H7 ⊢
       clear hgn
       obtain ⟨c0, c1, c2, c3, c4, c5, c6, c7, c8, c9, c10⟩ := KC.out _ (H1.out.trans H7.out.x)
       have HA := BothSh.act H7.out o u (HU.out.ext (H1.out.trans H7.out.x))
       go_wp2_with fail
       refine HA.mono ?_
       clear HA
       rintro e w8 ⟨rfl, h8⟩
       rw [← HRE.out.1, ← HRE.out.2]
       have H8 := Lib.hid h8
       clear h8 c0 c1 c2 c3 c4 c5 c6 c7 c8 c9 c10
       obtain ⟨c0, c1, c2, c3, c4, c5, c6, c7, c8, c9, c10⟩ := KC.out _ (H1.out.trans H8.out.x)
       have HA := BothSh.want H8.out o u (HU.out.ext (H1.out.trans H8.out.x))
       go_wp2_with fail
       refine HA.mono ?_
       clear HA
       rintro e w9 ⟨rfl, h9⟩
       rw [← HRE.out.1, ← HRE.out.2]
       have H9 := Lib.hid h9
       clear h9 c0 c1 c2 c3 c4 c5 c6 c7 c8 c9 c10
       go_wp2_with fail
       go_roundw
       case rel => exact ⟨k + 1, gn, by omega, rfl, by go_num, by rw [HS.out]; exact H9.out⟩
       case measure => simp [intOf]; omega
      all_goals
       obtain ⟨c0, -⟩ := KC.out _ (H1.out.trans HFS.out.x)
       go_wp2_with fail
       refine (BothSh.copy HFS.out).mono ?_
       rintro e w5 ⟨gn, rfl, h5⟩
       have H5 := Lib.hid h5
       clear h5 c0
       go_wp2_with fail
       refine (ThreeSh.store H5.out 0 0 0 1 99 (by decide) true true).mono ?_
       rintro e w6 ⟨⟨rr, rfl⟩, h6⟩
       have H7 := Lib.hid h6
       clear h6
       obtain ⟨c0, c1, c2, c3, c4, c5, c6, c7, c8, c9, c10⟩ := KC.out _ (H1.out.trans H7.out.x)
       have HA := BothSh.act H7.out o u (HU.out.ext (H1.out.trans H7.out.x))
       go_wp2_with fail
       refine HA.mono ?_
       clear HA
       rintro e w8 ⟨rfl, h8⟩
       rw [← HRE.out.1, ← HRE.out.2]
       have H8 := Lib.hid h8
       clear h8 c0 c1 c2 c3 c4 c5 c6 c7 c8 c9 c10
       obtain ⟨c0, c1, c2, c3, c4, c5, c6, c7, c8, c9, c10⟩ := KC.out _ (H1.out.trans H8.out.x)
       have HA := BothSh.want H8.out o u (HU.out.ext (H1.out.trans H8.out.x))
       go_wp2_with fail
       refine HA.mono ?_
       clear HA
       rintro e w9 ⟨rfl, h9⟩
       rw [← HRE.out.1, ← HRE.out.2]
       have H9 := Lib.hid h9
       clear h9 c0 c1 c2 c3 c4 c5 c6 c7 c8 c9 c10
       go_wp2_with fail
       go_roundw
       case rel => exact ⟨k + 1, gn, by omega, rfl, by go_num, by rw [HS.out]; exact H9.out⟩
       case measure => simp [intOf]; omega
    · have hlt' : ¬ (k : Int) < (l.length : Int) := by omega
      go_wp2_with fail
      refine (first20_any _).mono ?_
      rintro e w5 ⟨rfl, x5⟩
      have H5 := Lib.hid (HF.out.ext x5)
      clear x5
      go_wp2_with fail
      refine (BothSh.same H5.out rfl).mono ?_
      rintro e w6 ⟨rfl, x6⟩
      have H6 := Lib.hid x6
      clear x6
      go_wp2_with fail
      go_ret
      exact ⟨rfl, (H1.out.trans H5.out.x).trans H6.out⟩
end Go.Proofs.YtbhocahmhmafmaaGreat
