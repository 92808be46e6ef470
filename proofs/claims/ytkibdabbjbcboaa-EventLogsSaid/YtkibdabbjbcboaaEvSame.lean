/-
  The contract of event.Same, of what it calls. No condition.
-/
import Derived.Test.YtkibdabbjbcboaaEvReads
import Derived.Test.YtkibdabbjbcboaaPairEq
namespace Go.Ren
set_option linter.unusedVariables false
def evSame (a b : Ev) : Bool := decide (a.ag = b.ag ∧ a.kind = b.kind ∧ a.seq = b.seq ∧ a.nt = b.nt ∧ a.blk = b.blk ∧ a.at_ = b.at_ ∧ a.size = b.size) && (a.rd == b.rd) && (a.wr == b.wr) && (a.fr == b.fr)
theorem evSame_iff {a b : Ev} : evSame a b = true ↔ a = b := by
  obtain ⟨a1, a2, a3, a4, a5, a6, a7, a8, a9, a10⟩ := a
  obtain ⟨b1, b2, b3, b4, b5, b6, b7, b8, b9, b10⟩ := b
  simp [evSame, and_assoc]
def evsSame (x y : List Ev) : Bool := decide (x.length = y.length) && (List.range x.length).all fun i => evSame (evn x i) (evn y i)
theorem evsSame_iff {x y : List Ev} : evsSame x y = true ↔ x = y := by
  unfold evsSame
  simp only [Bool.and_eq_true, decide_eq_true_eq, List.all_eq_true, List.mem_range, evSame_iff]
  refine ⟨fun ⟨h1, h2⟩ => List.ext_getElem h1 fun i hi hj => ?_, fun h => by subst h; exact ⟨rfl, fun _ _ => rfl⟩⟩
  have := h2 i hi
  rwa [evn_eq hi, evn_eq hj] at this
def lgSame (a b : Lg) : Bool := evsSame a.ev b.ev && (a.pr == b.pr)
theorem lgSame_iff {a b : Lg} : lgSame a b = true ↔ a = b := by
  obtain ⟨a1, a2⟩ := a
  obtain ⟨b1, b2⟩ := b
  simp [lgSame, evsSame_iff]
theorem evsSame_false {x y : List Ev} {i : Nat} (hi : i < x.length) (h : evSame (evn x i) (evn y i) = false) : evsSame x y = false := by
  cases hs : evsSame x y with
  | false => rfl
  | true => have := evsSame_iff.1 hs; subst this; rw [evSame_iff.2 rfl] at h; cases h
end Go.Ren
namespace Go.Proofs.Ytkibdabbjbcboaa
open Go.Ren Go.RowKit
set_option linter.unusedVariables false

theorem bequal_any (w : World) (v1 v2 : Value) (a b : List UInt8) (h1 : BytesAt w v1 a) (h2 : BytesAt w v2 b) :
    Calls Try.prog 75 #[v1, v2] w fun e w' => e = .returned (.bool (a == b)) ∧ w = w' := by
  have e1 := h1.run_string (P := Try.prog) (D := 9) Try.underlying43 Try.underlying5 Try.underlying9
  have e2 := h2.run_string (P := Try.prog) (D := 9) Try.underlying43 Try.underlying5 Try.underlying9
  have s1 := str_toList a
  have s2 := str_toList b
  clear h1 h2
  go_enter Try.func75, Try.ntmps75
  go_wp2
  go_ret
  exact ⟨rfl, rfl⟩
theorem iequal_any (w : World) (v1 v2 : Value) (a b : List Int) (h1 : IntsAt w v1 a) (h2 : IntsAt w v2 b) :
    Calls Try.prog 76 #[v1, v2] w fun e w' => e = .returned (.bool (a == b)) ∧ Ext w w' := by
  have l1 := h1.sl.run_len (P := Try.prog) II.und 3
  have l2 := h2.sl.run_len (P := Try.prog) II.und 3
  have I1 := Lib.hid (h1.sl.run_idx (P := Try.prog) II.und II.size .i64)
  have I2 := Lib.hid (h2.sl.run_idx (P := Try.prog) II.und II.size .i64)
  have hm : (a.length : Int) ≤ 9223372036854775807 := by obtain ⟨_, c, _, q1, q2, _⟩ := h1.sl.shape; simp only [maxLen] at q2; omega
  obtain ⟨B, hB⟩ : ∃ B, B = (a == b) := ⟨_, rfl⟩
  rw [← hB]
  have HB := Lib.hid hB
  have HV := Lib.hid (And.intro h1 h2)
  clear hB h1 h2
  by_cases hl : a.length = b.length
  case neg =>
    have ht : ((a.length : Int) != (b.length : Int)) = true := by rw [bne_iff_ne]; omega
    have HL := Lib.hid hl; clear hl
    go_enter Try.func76, Try.ntmps76
    go_wp2
    go_ret
    exact ⟨ret_bool (by rw [HB.out]; exact (beq_eq_false_iff_ne.2 (fun e => HL.out (by rw [e]))).symm), Mod.refl _ _⟩
  case pos =>
    have ht : ((a.length : Int) != (b.length : Int)) = false := by rw [bne_eq_false_iff_eq]; omega
    have HL := Lib.hid hl; clear hl
    go_enter Try.func76, Try.ntmps76
    go_wp2
    go_loopw [13] (fun i wr => ∃ k : Nat, k ≤ a.length ∧ i = .int .i64 k ∧ a.take k = b.take k ∧ Ext w wr) (fun i _ => a.length - (intOf i).toNat)
    case atStart => exact ⟨0, Nat.zero_le _, rfl, rfl, Mod.refl _ _⟩
    case round =>
      obtain ⟨k, hk, rfl, hp, x⟩ := hrel
      have HP := Lib.hid (And.intro hp x); clear hp
      by_cases hlt : k < a.length
      · have hlt2 : k < b.length := by have := HL.out; omega
        have c1 := (HV.out.1.ext x).cell hlt
        have c2 := (HV.out.2.ext x).cell hlt2
        have j1 := I1.out k hlt
        have j2 := I2.out k hlt2
        simp only [Nat.mul_one] at j1 j2
        have hlt' : (k : Int) < (a.length : Int) := by omega
        clear x
        by_cases hx : a[k] = b[k]
        · have hxx : (a[k] != b[k]) = false := by rw [hx]; simp
          have HX := Lib.hid hx; clear hx
          go_wp2_with fail
          go_quiet (fail)
          go_wp2_with fail
          go_roundw
          case rel => exact ⟨k + 1, by omega, by go_num, take_step HP.out.1 hlt hlt2 HX.out, HP.out.2.drewN nq⟩
          case measure => simp [intOf]; omega
        · have hxx : (a[k] != b[k]) = true := by rw [bne_iff_ne]; exact hx
          have HE := Lib.hid (show (a == b) = false from beq_eq_false_iff_ne.2 (fun e => hx (by subst e; rfl))); clear hx
          go_wp2_with fail
          go_quiet (fail)
          go_wp2_with fail
          go_ret
          exact ⟨ret_bool (by rw [HB.out]; exact HE.out.symm), HP.out.2.drewN nq⟩
      · have hlt' : ¬ (k : Int) < (a.length : Int) := by omega
        have HE : Hid ((a == b) = true) := Lib.hid (by
          have h3 := HP.out.1
          rw [List.take_of_length_le (by omega), List.take_of_length_le (by have := HL.out; omega)] at h3
          rw [h3]; simp)
        clear x
        go_wp2_with fail
        go_ret
        exact ⟨ret_bool (by rw [HB.out]; exact HE.out.symm), HP.out.2⟩

structure PairsAt (w : World) (v : Value) (l : List (Int × Int)) : Prop where
  sl : Sl w v 2 l.length (flat 2 l.length (fun i j => prcell (prn l i) j))
theorem PairsAt.ext {w w' : World} {v : Value} {l : List (Int × Int)} (h : PairsAt w v l) (x : Ext w w') : PairsAt w' v l := ⟨h.sl.ext (by decide) x⟩
theorem PairsAt.cells {w : World} {v : Value} {l : List (Int × Int)} (h : PairsAt w v l) {i : Nat} (hi : i < l.length) : w.cell? (at_ v (i * 2)) = some (.int .i64 l[i].1) ∧ w.cell? ⟨(at_ v (i * 2)).block, (at_ v (i * 2)).off + 1, none⟩ = some (.int .i64 l[i].2) := by
  have g : ∀ j, j < 2 → (flat 2 l.length (fun i j => prcell (prn l i) j))[i * 2 + j]? = some (prcell (prn l i) j) := fun j hj => flat_get (sz := 2) _ hi hj
  rw [← prn_eq hi]
  exact ⟨h.sl.cell _ _ (g 0 (by decide)), h.sl.cell_off (by decide) (g 1 (by decide))⟩
theorem pequal_any (w : World) (v1 v2 : Value) (a b : List (Int × Int)) (h1 : PairsAt w v1 a) (h2 : PairsAt w v2 b) :
    Calls Try.prog 65 #[v1, v2] w fun e w' => e = .returned (.bool (a == b)) ∧ Ext w w' := by
  have l1 := h1.sl.run_len (P := Try.prog) IP.und 3
  have l2 := h2.sl.run_len (P := Try.prog) IP.und 3
  have I1 := Lib.hid (h1.sl.run_idx (P := Try.prog) IP.und IP.size .i64)
  have I2 := Lib.hid (h2.sl.run_idx (P := Try.prog) IP.und IP.size .i64)
  have hm : (a.length : Int) ≤ 9223372036854775807 := by obtain ⟨_, c, _, q1, q2, _⟩ := h1.sl.shape; simp only [maxLen] at q2; omega
  obtain ⟨B, hB⟩ : ∃ B, B = (a == b) := ⟨_, rfl⟩
  rw [← hB]
  have HB := Lib.hid hB
  have HV := Lib.hid (And.intro h1 h2)
  clear hB h1 h2
  by_cases hl : a.length = b.length
  case neg =>
    have ht : ((a.length : Int) != (b.length : Int)) = true := by rw [bne_iff_ne]; omega
    have HL := Lib.hid hl; clear hl
    go_enter Try.func65, Try.ntmps65
    go_wp2
    go_ret
    exact ⟨ret_bool (by rw [HB.out]; exact (beq_eq_false_iff_ne.2 (fun e => HL.out (by rw [e]))).symm), Mod.refl _ _⟩
  case pos =>
    have ht : ((a.length : Int) != (b.length : Int)) = false := by rw [bne_eq_false_iff_eq]; omega
    have HL := Lib.hid hl; clear hl
    go_enter Try.func65, Try.ntmps65
    go_wp2
    go_loopw [13] (fun i wr => ∃ k : Nat, k ≤ a.length ∧ i = .int .i64 k ∧ a.take k = b.take k ∧ Ext w wr) (fun i _ => a.length - (intOf i).toNat)
    case atStart => exact ⟨0, Nat.zero_le _, rfl, rfl, Mod.refl _ _⟩
    case round =>
      obtain ⟨k, hk, rfl, hp, x⟩ := hrel
      have HP := Lib.hid (And.intro hp x); clear hp
      by_cases hlt : k < a.length
      · have hlt2 : k < b.length := by have := HL.out; omega
        obtain ⟨c1, c2⟩ := (HV.out.1.ext x).cells hlt
        obtain ⟨c3, c4⟩ := (HV.out.2.ext x).cells hlt2
        have j1 := I1.out k hlt
        have j2 := I2.out k hlt2
        have hlt' : (k : Int) < (a.length : Int) := by omega
        obtain ⟨A1, hA1⟩ : ∃ A, A = at_ v1 (k * 2) := ⟨_, rfl⟩
        obtain ⟨A2, hA2⟩ : ∃ A, A = at_ v2 (k * 2) := ⟨_, rfl⟩
        rw [← hA1] at c1 c2 j1
        rw [← hA2] at c3 c4 j2
        have hq := run_neq_pair (P := Try.prog) (T := 32) (e := 3) Try.underlying32 Try.underlying3 (by kernel_rfl) a[k].1 a[k].2 b[k].1 b[k].2
        have hg : ∀ (op : BinOp) (x y : Operand) (w' : World), (eqGuard op 32 x y (.agg #[.int .i64 a[k].1, .int .i64 a[k].2]) (.agg #[.int .i64 b[k].1, .int .i64 b[k].2])).run Try.prog w' = .ok () w' := fun op x y w' => run_eqGuard_agg w' op _ x y _ _ (by kernel_rfl)
        clear x hA1 hA2
        by_cases hx : a[k] = b[k]
        · have hxx : (a[k].1 == b[k].1 && a[k].2 == b[k].2) = true := by rw [hx]; simp
          rw [hxx] at hq
          have HX := Lib.hid hx; clear hx hxx
          go_wp2_with fail
          go_quiet (fail)
          go_wp2_with fail
          go_roundw
          case rel => exact ⟨k + 1, by omega, by go_num, take_step HP.out.1 hlt hlt2 HX.out, HP.out.2.drewN nq⟩
          case measure => simp [intOf]; omega
        · have hxx : (a[k].1 == b[k].1 && a[k].2 == b[k].2) = false := by
            cases hc : (a[k].1 == b[k].1 && a[k].2 == b[k].2) with
            | false => rfl
            | true => simp at hc; exact absurd (Prod.ext hc.1 hc.2) hx
          rw [hxx] at hq
          have HE := Lib.hid (show (a == b) = false from beq_eq_false_iff_ne.2 (fun e => hx (by subst e; rfl))); clear hx hxx
          go_wp2_with fail
          go_quiet (fail)
          go_wp2_with fail
          go_ret
          exact ⟨ret_bool (by rw [HB.out]; exact HE.out.symm), HP.out.2.drewN nq⟩
      · have hlt' : ¬ (k : Int) < (a.length : Int) := by omega
        have HE : Hid ((a == b) = true) := Lib.hid (by
          have h3 := HP.out.1
          rw [List.take_of_length_le (by omega), List.take_of_length_le (by have := HL.out; omega)] at h3
          rw [h3]; simp)
        clear x
        go_wp2_with fail
        go_ret
        exact ⟨ret_bool (by rw [HB.out]; exact HE.out.symm), HP.out.2⟩
end Go.Proofs.Ytkibdabbjbcboaa
