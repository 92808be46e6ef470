/-
  The contracts of renref14.Rel's Has and List. No condition.
-/
import Derived.Test.YtkibdabbjbcboaaRvRel
import Derived.Test.YtkibdabbjbcboaaRelList
import Derived.Test.YtkibdabbjbcboaaRelTool
namespace Go.Proofs.Ytkibdabbjbcboaa
open Go.Ren Go.RowKit
set_option linter.unusedVariables false
theorem pair_cells2 {w : World} {v : Value} {l : List (Int × Int)} (h : PairsOwn w v l) {i : Nat} (hi : i < l.length) : w.cell? (at_ v (i * 2)) = some (.int .i64 (prn l i).1) ∧ w.cell? ⟨(at_ v (i * 2)).block, (at_ v (i * 2)).off + 1, none⟩ = some (.int .i64 (prn l i).2) :=
  ⟨h.sl.cell (i * 2) _ (flat_get (sz := 2) (j := 0) _ hi (by decide)), h.sl.cell_off (j := 1) (by decide) (flat_get (sz := 2) (j := 1) _ hi (by decide))⟩
set_option maxRecDepth 100000 in
theorem rrhas_any (w : World) (rv : Value) (R : Nat → Value) (n : Nat) (M : Nat → Nat → Bool) (h : RRel w rv R n M) (a b : Int) :
    Calls Try.prog 49 #[rv, .int .i64 a, .int .i64 b] w (FPost (hasB n M a b) w) := by
  have ln := h.len
  have hle : (n : Int) ≤ 64 := by have := h.le; omega
  obtain ⟨Q, hQ⟩ : ∃ Q, Q = hasB n M a b := ⟨_, rfl⟩
  rw [← hQ]
  rcases (by omega : a < 0 ∨ (0 ≤ a ∧ (n : Int) ≤ a) ∨ (0 ≤ a ∧ a < (n : Int) ∧ b < 0) ∨ (0 ≤ a ∧ a < (n : Int) ∧ 0 ≤ b ∧ (n : Int) ≤ b) ∨ (0 ≤ a ∧ a < (n : Int) ∧ 0 ≤ b ∧ b < (n : Int))) with z | ⟨z, z1⟩ | ⟨z, z1, z2⟩ | ⟨z, z1, z2, z3⟩ | ⟨z, z1, z2, z3⟩
  case inr.inr.inr.inr =>
    obtain ⟨a, rfl⟩ := Int.eq_ofNat_of_zero_le z
    obtain ⟨b, rfl⟩ := Int.eq_ofNat_of_zero_le z2
    have ha : a < n := by omega
    have hb : b < n := by omega
    obtain ⟨f1, f2, -⟩ := h.facts ha hb
    obtain ⟨i1, i2⟩ := h.idx ha hb
    have hm : M a b = Q := by rw [hQ, hasB_nat ha hb]
    rw [hm] at f2
    clear h hQ hm
    go_enter Try.func49, Try.ntmps49
    go_wp2_with fail
    go_ret
    exact ⟨rfl, Mod.refl _ _⟩
  all_goals
    have HF : Hid (Q = false) := Lib.hid (by rw [hQ]; unfold hasB; rw [show decide (0 ≤ a ∧ a < (n : Int) ∧ 0 ≤ b ∧ b < (n : Int)) = false by rw [decide_eq_false_iff_not]; omega]; rfl)
    clear h hQ
    go_enter Try.func49, Try.ntmps49
    go_wp2_with fail
    go_ret
    exact ⟨ret_bool (by rw [HF.out]), Mod.refl _ _⟩
set_option maxRecDepth 100000 in
set_option maxHeartbeats 800000 in
theorem rrlist_any (w : World) (rv : Value) (V : Nat → Value) (n : Nat) (R : Nat → Nat → Bool) (h : RRel w rv V n R) :
    Calls Try.prog 50 #[rv] w (RListPost n R w) := by
  have ln := h.len
  have hn := h.le
  have hnI : (n : Int) ≤ 64 := by omega
  have KR := Lib.hid h
  have HLEN : Hid (∀ a b, a < n → b < n → (listP R n a ++ rowP R a b).length ≤ 5000) := Lib.hid fun a b ha hb => by
    rw [List.length_append]
    have h1 := listP_len R hn a
    have h2 := rowP_len R a b
    omega
  clear h
  go_enter Try.func50, Try.ntmps50
  go_wp2_with fail
  go_loopw [3, 4] (fun s3 s10 wr => ∃ a : Nat, a ≤ n ∧ s10 = .int .i64 (a : Int) ∧ PairsOwn wr s3 (listP R n a) ∧ Ext w wr ∧ ∀ q, s3.ownBlock = some q → w.heap.size ≤ q) (fun _ s _ => n - (intOf s).toNat)
  case atStart => exact ⟨0, Nat.zero_le _, rfl, Own.nil _ _ _, Mod.refl _ _, fun q hq => by cases hq⟩
  case round =>
    obtain ⟨a, ha, rfl, ho, x, hf⟩ := hrel
    by_cases hlt : a < n
    · have hlt' : (a : Int) < (n : Int) := by omega
      have H := Lib.hid (And.intro ho (And.intro x hf))
      clear ho x hf
      go_wp2_with fail
      go_loopw [3, 5] (fun s3 s17 wr => ∃ b : Nat, b ≤ n ∧ s17 = .int .i64 (b : Int) ∧ PairsOwn wr s3 (listP R n a ++ rowP R a b) ∧ Ext w wr ∧ ∀ q, s3.ownBlock = some q → w.heap.size ≤ q) (fun _ s _ => n - (intOf s).toNat)
      case atStart => exact ⟨0, Nat.zero_le _, rfl, by simpa [rowP] using H.out.1, H.out.2.1, H.out.2.2⟩
      case round =>
        obtain ⟨b, hb, rfl, ho, x, hf⟩ := hrel
        by_cases hbl : b < n
        · have hbl' : (b : Int) < (n : Int) := by omega
          obtain ⟨f1, f2, -⟩ := (KR.out.ext x).facts hlt hbl
          obtain ⟨i1, i2⟩ := KR.out.idx hlt hbl
          have H2 := Lib.hid (And.intro ho (And.intro x hf))
          clear ho x hf
          cases hq : R a b with
          | false =>
            have HN := Lib.hid (rowP_no hq)
            rw [hq] at f2
            clear hq
            go_wp2_with fail
            go_roundw
            case rel => exact ⟨b + 1, by omega, by go_num, by rw [HN.out]; exact H2.out.1, H2.out.2.1, H2.out.2.2⟩
            case measure => simp [intOf]; omega
          | true =>
            have HN := Lib.hid (rowP_yes hq)
            have hlen := HLEN.out a b hlt hbl
            rw [hq] at f2
            clear hq
            go_wp2_with (at_builtin; go_loud (refine wpList_app IP rfl (.tmp 25) (.tmp 29) rfl (H2.out.1.ext (Mod.alloc (Mod.refl _ _) _)) (built_sl (n := 1) (g := wr.heap.size) (e := 32) (cs := #[.int .i64 (a : Int), .int .i64 (b : Int)]) (by simp only [heap_alloc_if, if_true]) rfl (by simp only [maxLen]; omega)) (one2i _ _) (by simp [Act.eval]) (by simp [Act.eval]) (by omega) (by simp only [maxLen]; omega) ?_); intro lv' w2 ol2 gr2 fr2 nn2; have HH := Lib.hid (And.intro ol2 (And.intro gr2 fr2)); clear ol2 gr2 fr2 nn2)
            go_roundw
            case rel =>
              obtain ⟨ol2, gr2, fr2⟩ := HH.out
              have M2 : Mod (fun q => u3.ownBlock = some q) wr w2 := Mod.grown (Mod.alloc (Mod.refl _ _) _) gr2 (fun q h => .inl h)
              obtain ⟨p1, p2, p3⟩ := pairs_more H2.out.2.1 H2.out.2.2 ol2 M2 (fun q hq => by
                rcases fr2 q hq with h | h
                · exact .inl h
                · simp only [World.size_alloc] at h; exact .inr (by omega))
              exact ⟨b + 1, by omega, by go_num, by rw [HN.out, ← List.append_assoc]; exact p1, p2, p3⟩
            case measure => simp [intOf]; omega
        · have hbl' : ¬ (b : Int) < (n : Int) := by omega
          have HB : Hid (b = n) := Lib.hid (by omega)
          have H2 := Lib.hid (And.intro ho (And.intro x hf))
          clear ho x hf
          go_wp2_with fail
          go_roundw
          case rel => exact ⟨a + 1, by omega, by go_num, by have hb := HB.out; have h := H2.out.1; rw [hb] at h; rw [listP_succ]; exact h, H2.out.2.1, H2.out.2.2⟩
          case measure => simp [intOf]; omega
    · have hlt' : ¬ (a : Int) < (n : Int) := by omega
      have HA : Hid (a = n) := Lib.hid (by omega)
      have H := Lib.hid (And.intro ho (And.intro x hf))
      clear ho x hf
      go_wp2_with fail
      go_ret
      exact ⟨_, rfl, by have ha := HA.out; have h := H.out.1; rw [ha] at h; exact h, H.out.2.1, H.out.2.2⟩
end Go.Proofs.Ytkibdabbjbcboaa
