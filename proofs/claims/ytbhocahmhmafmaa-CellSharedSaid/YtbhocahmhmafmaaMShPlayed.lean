/-
  The contracts of renlaw20.Few and renlaw20.Played. No condition.
-/
import Derived.Test.YtbhocahmhmafmaaMShFresh
namespace Go.Proofs.Ytbhocahmhmafmaa
open Go.Ren Go.RowKit
set_option linter.unusedVariables false
def Few20Post (l : List Op20) (e : Ending) : Prop := ∃ r, e = .returned (.bool r) ∧ (r = true → l.length ≤ 60)
set_option maxRecDepth 100000 in
set_option maxHeartbeats 800000 in
theorem few20_any (w : World) (v : Value) (l : List Op20) (h : Ops20 w v l) :
    Calls Try.prog 9 #[v] w fun e w' => Few20Post l e ∧ Ext w w' := by
  obtain ⟨xs, hs⟩ := h.len
  have l0 := hs.run_len (P := Try.prog) IO20.und 3
  have HI := Lib.hid (hs.run_idx (P := Try.prog) IO20.und IO20.size .i64)
  have HH := Lib.hid h
  clear h hs
  go_enter Try.func9, Try.ntmps9
  go_wp2_with fail
  go_loopw [3] (fun s3 wr => ∃ k : Nat, k ≤ l.length ∧ k ≤ 60 ∧ s3 = .int .i64 (k : Int) ∧ Ext w wr) (fun i _ => l.length - (intOf i).toNat)
  case atStart => exact ⟨0, Nat.zero_le _, by omega, rfl, Mod.refl _ _⟩
  case round =>
    obtain ⟨k, hk, hk3, rfl, x⟩ := hrel
    have HX := Lib.hid x
    by_cases hlt : k < l.length
    · have hlt' : (k : Int) < (l.length : Int) := by omega
      by_cases hl3 : k < 60
      · have hl3' : (k : Int) < 60 := by omega
        have i1 := HI.out k hlt
        obtain ⟨u, hu, c0, cc⟩ := (HH.out.ext x).cells hlt
        have c10 := cc 10 _ (by decide) rfl
        have lb := hu.fr.sl.run_len (P := Try.prog) II.und 3
        obtain ⟨B, hB⟩ : ∃ F, F = l[k].fr.length := ⟨_, rfl⟩
        obtain ⟨A, hA⟩ : ∃ A, A = at_ v (k * 11) := ⟨_, rfl⟩
        rw [← hB] at lb
        rw [← hA] at i1 c10
        clear hu c0 cc hB hA x
        by_cases hb : 100 < B
        · have hb' : (100 : Int) < (B : Int) := by omega
          go_wp2_with fail
          go_ret
          exact ⟨⟨_, rfl, fun e => by cases e⟩, HX.out⟩
        · have hb' : ¬ (100 : Int) < (B : Int) := by omega
          go_wp2_with fail
          go_roundw
          case rel => exact ⟨k + 1, by omega, by omega, by go_num, HX.out⟩
          case measure => simp [intOf]; omega
      · have hl3' : ¬ (k : Int) < 60 := by omega
        have hl4 : ¬ (l.length : Int) ≤ 60 := by omega
        clear x
        go_wp2_with fail
        go_ret
        exact ⟨⟨_, rfl, fun e => by cases e⟩, HX.out⟩
    · have hlt' : ¬ (k : Int) < (l.length : Int) := by omega
      obtain rfl : k = l.length := by omega
      have hf' : (l.length : Int) ≤ 60 := by omega
      clear x
      go_wp2_with fail
      go_ret
      exact ⟨⟨_, rfl, fun _ => by omega⟩, HX.out⟩
theorem run_snoc (s : Shm) (l : List Op20) (o : Op20) : shRun s (l ++ [o]) = (shAct (shRun s l) o).2 := by
  induction l generalizing s with
  | nil => rfl
  | cons a l ih => exact ih _
theorem run_take {s : Shm} {l : List Op20} {k : Nat} (hk : k < l.length) : shRun s (l.take (k + 1)) = (shAct (shRun s (l.take k)) l[k]).2 := by
  rw [List.take_add_one, List.getElem?_eq_getElem hk]
  exact run_snoc _ _ _
def PlayedPost (n r : Int) (l : List Op20) (w : World) (e : Ending) (w' : World) : Prop :=
  ((1 ≤ n ∧ n ≤ 64 ∧ 0 ≤ r ∧ r ≤ 64) → ∃ g, e = .returned (ptr g) ∧ FreshSh w w' g (shRun (shTwo n.toNat r.toNat) l)) ∧
  (¬ (1 ≤ n ∧ n ≤ 64 ∧ 0 ≤ r ∧ r ≤ 64) → e = .returned (.pointer none) ∧ Ext w w')
set_option maxRecDepth 100000 in
set_option maxHeartbeats 800000 in
theorem played_any (w : World) (n r : Int) (v : Value) (l : List Op20) (h : Ops20 w v l) :
    Calls Try.prog 8 #[.int .i64 n, .int .i64 r, v] w (PlayedPost n r l w) := by
  obtain ⟨xs, hs⟩ := h.len
  have l0 := hs.run_len (P := Try.prog) IO20.und 3
  have HI := Lib.hid (hs.run_idx (P := Try.prog) IO20.und IO20.size .i64)
  have HH := Lib.hid h
  have hbig : (l.length : Int) ≤ 9223372036854775807 := by
    obtain ⟨a, c, _, h1, h2, h3⟩ := hs.shape
    simp only [maxLen] at h2
    omega
  clear h hs
  go_enter Try.func8, Try.ntmps8
  go_wp2_with fail
  refine (fr_new _ n r).mono ?_
  rintro e w1 ⟨hA, hB⟩
  by_cases hc : 1 ≤ n ∧ n ≤ 64 ∧ 0 ≤ r ∧ r ≤ 64
  case neg =>
    obtain ⟨rfl, rfl⟩ := hB hc
    have HC := Lib.hid hc
    clear hA hB hc
    go_wp2_with fail
    go_ret
    exact ⟨fun h => absurd h HC.out, fun _ => ⟨rfl, Mod.refl _ _⟩⟩
  case pos =>
    obtain ⟨g, rfl, h1⟩ := hA hc
    have HC := Lib.hid hc
    obtain ⟨N, hN⟩ : ∃ N, N = n.toNat := ⟨_, rfl⟩
    obtain ⟨R, hR⟩ : ∃ R, R = r.toNat := ⟨_, rfl⟩
    rw [← hN, ← hR] at h1
    have HNR := Lib.hid (And.intro hN hR)
    have H1 := Lib.hid h1
    clear hA hB hc h1 hN hR
    go_wp2_with fail
    refine (fr_make H1.out 16).mono ?_
    rintro e w2 ⟨rfl, h2⟩
    have H2 := Lib.hid h2
    clear h2
    go_wp2_with fail
    refine (fr_make H2.out 8).mono ?_
    rintro e w3 ⟨rfl, h3⟩
    have H3 : Hid (FreshSh w w3 g (shTwo N R)) := Lib.hid h3
    clear h3
    go_wp2_with fail
    go_loopw [9] (fun s9 wr => ∃ k : Nat, k ≤ l.length ∧ s9 = .int .i64 (k : Int) ∧ FreshSh w wr g (shRun (shTwo N R) (l.take k))) (fun i _ => l.length - (intOf i).toNat)
    case atStart => exact ⟨0, Nat.zero_le _, rfl, H3.out⟩
    case round =>
      obtain ⟨k, hk, rfl, hf⟩ := hrel
      have HF := Lib.hid hf
      clear hf
      by_cases hlt : k < l.length
      · have hlt' : (k : Int) < (l.length : Int) := by omega
        have i1 := HI.out k hlt
        obtain ⟨u, hu, c0, cc⟩ := (HH.out.ext HF.out.x).cells hlt
        obtain ⟨o, ho⟩ : ∃ o, o = l[k] := ⟨_, rfl⟩
        obtain ⟨A, hA⟩ : ∃ A, A = at_ v (k * 11) := ⟨_, rfl⟩
        have HS : Hid (shRun (shTwo N R) (l.take (k + 1)) = (shAct (shRun (shTwo N R) (l.take k)) o).2) := Lib.hid (by rw [ho]; exact run_take hlt)
        rw [← hA] at i1 c0 cc
        rw [← ho] at hu c0 cc
        have c1 := cc 1 _ (by decide) rfl
        have c2 := cc 2 _ (by decide) rfl
        have c3 := cc 3 _ (by decide) rfl
        have c4 := cc 4 _ (by decide) rfl
        have c5 := cc 5 _ (by decide) rfl
        have c6 := cc 6 _ (by decide) rfl
        have c7 := cc 7 _ (by decide) rfl
        have c8 := cc 8 _ (by decide) rfl
        have c9 := cc 9 _ (by decide) rfl
        have c10 := cc 10 _ (by decide) rfl
        have HU := Lib.hid hu
        clear hu cc ho hA
        go_wp2_with fail
        refine (fr_act HF.out o u HU.out).mono ?_
        rintro e w4 ⟨rfl, h4⟩
        have H4 := Lib.hid h4
        clear h4 c0 c1 c2 c3 c4 c5 c6 c7 c8 c9 c10
        go_wp2_with fail
        go_roundw
        case rel => exact ⟨k + 1, by omega, by go_num, by rw [HS.out]; exact H4.out⟩
        case measure => simp [intOf]; omega
      · have hlt' : ¬ (k : Int) < (l.length : Int) := by omega
        obtain rfl : k = l.length := by omega
        go_wp2_with fail
        go_ret
        have hf := HF.out
        rw [List.take_length, HNR.out.1, HNR.out.2] at hf
        exact ⟨fun _ => ⟨g, rfl, hf⟩, fun h => absurd HC.out h⟩
theorem ops20_nil (w : World) : Ops20 w (.slice none 0 0) [] := ⟨[], (Own.nil w 50 11).sl, fun i h => absurd h (Nat.not_lt_zero _)⟩
end Go.Proofs.Ytbhocahmhmafmaa
