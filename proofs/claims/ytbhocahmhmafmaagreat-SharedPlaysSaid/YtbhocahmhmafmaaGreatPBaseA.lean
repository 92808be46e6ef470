/-
  Small tools; the library's clones. No condition. The contract of renref.Bytes. No condition. The contract of slices.Equal at bytes. No condition. Two pairs held against one another. Over any program. No condition.
-/
import Derived.Test.YtbhocahmhmafmaaGreatProg
import Derived.Test.YtbhocahmhmafmaaGreatPLib
import Derived.Lib.Hide
import Derived.Outline
import Derived.BigQuiet
import Derived.ChangeKeysEq
import Derived.Laws.StructEq
namespace Go.Proofs.YtbhocahmhmafmaaGreat
open Go.Ren Go.RowKit
theorem IB : EInfo Tryz.prog 68 5 1 1 (.int .u8 0) := ⟨Tryz.underlying68, by kernel_rfl, rfl, by decide⟩
theorem II : EInfo Tryz.prog 33 3 1 8 (.int .i64 0) := ⟨Tryz.underlying33, by kernel_rfl, rfl, by decide⟩
theorem take_step {α : Type} {a b : List α} {k : Nat} (h : a.take k = b.take k) (ha : k < a.length) (hb : k < b.length) (hx : a[k] = b[k]) : a.take (k + 1) = b.take (k + 1) := by
 rw [List.take_succ_eq_append_getElem ha, List.take_succ_eq_append_getElem hb, h, hx]
theorem ret_bool {a b : Bool} (h : a = b) : Ending.returned (.bool a) = .returned (.bool b) := by rw [h]
theorem nil_of {w : World} {v : Value} {sz n : Nat} {xs : List Value} (h : Sl w v sz n xs) (hv : nilS v = true) : n = 0 := by
 obtain ⟨a, c, rfl, _, _, h3⟩ := h.shape
 cases a with
 | none => exact (h3 rfl).1
 | some p => cases hv
theorem own_empty (w : World) (e : TypeId) : Own (w.alloc (.cells #[] e)) e 1 (.slice (some ⟨w.heap.size, 0, none⟩) 0 0) 0 [] := Own.made w #[] e 1 0 (by simp [maxLen]) rfl
def Copied (e : TypeId) (xs : List Value) (w : World) (en : Ending) (w' : World) : Prop := ∃ v', en = .returned v' ∧ Own w' e 1 v' xs.length xs ∧ Ext w w' ∧ (∀ k, v'.ownBlock = some k → w.heap.size ≤ k)
theorem clone_bytes (w : World) (v : Value) (l : List UInt8) (h : BytesAt w v l) (hl : l.length ≤ 1000000) :
 Calls Tryz.prog 89 #[v] w (Copied 5 (l.map bv) w) := by
 have hnil := Sl.run_nil (P := Tryz.prog) h IB.und
 have hg := run_guard_nil (P := Tryz.prog) v
 cases hv : nilS v with
 | true =>
  rw [hv] at hnil
  have hl : l = [] := List.eq_nil_of_length_eq_zero (nil_of h hv)
  subst hl
  clear hv
  go_enter Tryz.func89, Tryz.ntmps89
  go_wp2
  go_ret
  exact ⟨_, rfl, Own.nil _ _ _, Mod.refl _ _, fun k hk => by cases hk⟩
 | false =>
  rw [hv] at hnil
  clear hv
  go_enter Tryz.func89, Tryz.ntmps89
  go_wp2_with (at_builtin; refine wpList_app IB rfl (.tmp 5) (.tmp 6) rfl (own_empty _ _) (h.ext ((Mod.refl _ _).alloc _)) (one_bv l) rfl rfl (by omega) (by simp only [maxLen]; omega) ?_; intro v' w' ho hgr hfr hnn)
  go_ret
  refine ⟨_, rfl, by simpa using ho, ((Mod.refl _ w).alloc _).grown hgr (by intro k hk; simp [Value.ownBlock] at hk; right; omega), fun k hk => ?_⟩
  rcases hfr k hk with h1 | h1
  · simp [Value.ownBlock] at h1; omega
  · simp at h1; omega
theorem clone_ints (w : World) (v : Value) (l : List Int) (h : IntsAt w v l) (hl : l.length ≤ 1000000) :
 Calls Tryz.prog 90 #[v] w (Copied 3 (l.map iv) w) := by
 have hnil := Sl.run_nil (P := Tryz.prog) h.sl II.und
 have hg := run_guard_nil (P := Tryz.prog) v
 cases hv : nilS v with
 | true =>
  rw [hv] at hnil
  have hl : l = [] := List.eq_nil_of_length_eq_zero (nil_of h.sl hv)
  subst hl
  clear hv
  go_enter Tryz.func90, Tryz.ntmps90
  go_wp2
  go_ret
  exact ⟨_, rfl, Own.nil _ _ _, Mod.refl _ _, fun k hk => by cases hk⟩
 | false =>
  rw [hv] at hnil
  clear hv
  go_enter Tryz.func90, Tryz.ntmps90
  go_wp2_with (at_builtin; refine wpList_app II rfl (.tmp 5) (.tmp 6) rfl (own_empty _ _) (h.sl.ext (by decide) ((Mod.refl _ _).alloc _)) (one_iv l) rfl rfl (by omega) (by simp only [maxLen]; omega) ?_; intro v' w' ho hgr hfr hnn)
  go_ret
  refine ⟨_, rfl, by simpa using ho, ((Mod.refl _ w).alloc _).grown hgr (by intro k hk; simp [Value.ownBlock] at hk; right; omega), fun k hk => ?_⟩
  rcases hfr k hk with h1 | h1
  · simp [Value.ownBlock] at h1; omega
  · simp at h1; omega
end Go.Proofs.YtbhocahmhmafmaaGreat
namespace Go.Proofs.YtbhocahmhmafmaaGreat
open Go.Ren Go.RowKit
theorem bytes_any (w : World) (v1 v2 : Value) (a b : List UInt8) (h1 : BytesAt w v1 a) (h2 : BytesAt w v2 b) :
 Calls Tryz.prog 66 #[v1, v2] w fun e w' => e = .returned (.bool (a == b)) ∧ w = w' := by
 have e1 := h1.run_string (P := Tryz.prog) (D := 9) Tryz.underlying68 Tryz.underlying5 Tryz.underlying9
 have e2 := h2.run_string (P := Tryz.prog) (D := 9) Tryz.underlying68 Tryz.underlying5 Tryz.underlying9
 have s1 := str_toList a
 have s2 := str_toList b
 clear h1 h2
 go_enter Tryz.func66, Tryz.ntmps66
 go_wp2
 go_ret
 exact ⟨rfl, rfl⟩
end Go.Proofs.YtbhocahmhmafmaaGreat
namespace Go.Proofs.YtbhocahmhmafmaaGreat
open Go.Ren Go.RowKit
set_option linter.unusedVariables false
set_option maxRecDepth 100000 in
theorem bsequal_any (w : World) (v1 v2 : Value) (a b : List UInt8) (h1 : BytesAt w v1 a) (h2 : BytesAt w v2 b) :
 Calls Tryz.prog 100 #[v1, v2] w fun e w' => e = .returned (.bool (a == b)) ∧ Ext w w' := by
 have l1 := Sl.run_len (P := Tryz.prog) h1 IB.und 3
 have l2 := Sl.run_len (P := Tryz.prog) h2 IB.und 3
 have I1 := Lib.hid (Sl.run_idx (P := Tryz.prog) h1 IB.und IB.size .i64)
 have I2 := Lib.hid (Sl.run_idx (P := Tryz.prog) h2 IB.und IB.size .i64)
 have hm : (a.length : Int) ≤ 9223372036854775807 := by obtain ⟨_, c, _, q1, q2, _⟩ := Sl.shape h1; simp only [maxLen] at q2; omega
 obtain ⟨B, hB⟩ : ∃ B, B = (a == b) := ⟨_, rfl⟩
 rw [← hB]
 have HB := Lib.hid hB
 have HV := Lib.hid (And.intro h1 h2)
 clear hB h1 h2
 by_cases hl : a.length = b.length
 case neg =>
  have ht : ((a.length : Int) != (b.length : Int)) = true := by rw [bne_iff_ne]; omega
  have HL := Lib.hid hl; clear hl
  go_enter Tryz.func100, Tryz.ntmps100
  go_wp2
  go_ret
  exact ⟨ret_bool (by rw [HB.out]; exact (beq_eq_false_iff_ne.2 (fun e => HL.out (by rw [e]))).symm), Mod.refl _ _⟩
 case pos =>
  have ht : ((a.length : Int) != (b.length : Int)) = false := by rw [bne_eq_false_iff_eq]; omega
  have HL := Lib.hid hl; clear hl
  go_enter Tryz.func100, Tryz.ntmps100
  go_wp2
  go_loopw [13] (fun i wr => ∃ k : Nat, k ≤ a.length ∧ i = .int .i64 k ∧ a.take k = b.take k ∧ Ext w wr) (fun i _ => a.length - (intOf i).toNat)
  case atStart => exact ⟨0, Nat.zero_le _, rfl, rfl, Mod.refl _ _⟩
  case round =>
   obtain ⟨k, hk, rfl, hp, x⟩ := hrel
   have HP := Lib.hid (And.intro hp x); clear hp
   by_cases hlt : k < a.length
   · have hlt2 : k < b.length := by have := HL.out; omega
     have c1 := BytesAt.cell (BytesAt.ext HV.out.1 x) hlt
     have c2 := BytesAt.cell (BytesAt.ext HV.out.2 x) hlt2
     have j1 := I1.out k hlt
     have j2 := I2.out k hlt2
     simp only [Nat.mul_one] at j1 j2
     have hlt' : (k : Int) < (a.length : Int) := by omega
     clear x
     by_cases hx : a[k] = b[k]
     · have hxx : ((a[k].toNat : Int) != (b[k].toNat : Int)) = false := by rw [hx]; simp
       have HX := Lib.hid hx; clear hx
       go_wp2_with fail
       go_quiet (fail)
       go_wp2_with fail
       go_roundw
       case rel => exact ⟨k + 1, by omega, by go_num, take_step HP.out.1 hlt hlt2 HX.out, HP.out.2.drewN nq⟩
       case measure => simp [intOf]; omega
     · have hxx : ((a[k].toNat : Int) != (b[k].toNat : Int)) = true := by rw [bne_iff_ne]; exact fun e => hx (UInt8.toNat_inj.1 (by omega))
       have HE := Lib.hid (show (a == b) = false from beq_eq_false_iff_ne.2 (fun e => hx (by subst e; rfl))); clear hx
       go_wp2_with fail
       go_quiet (fail)
       go_wp2_with fail
       go_ret
       exact ⟨ret_bool (by rw [HB.out]; exact HE.out.symm), HP.out.2.drewN nq⟩
   · have hlt' : ¬ (k : Int) < (a.length : Int) := by omega
     have HE : Hid ((a == b) = true) := Lib.hid (by
      have h3 := HP.out.1
      rw [List.take_of_length_le (by omega), List.take_of_length_le (by have := HL.out; omega)] at h3
      rw [h3]; simp)
     clear x
     go_wp2_with fail
     go_ret
     exact ⟨ret_bool (by rw [HB.out]; exact HE.out.symm), HP.out.2⟩
end Go.Proofs.YtbhocahmhmafmaaGreat
namespace Go.Ren
set_option linter.unusedVariables false
open Go.RowKit in
theorem run_neq_pair {P : Program} {T e : TypeId} (hT : P.underlying T = some (.array 2 e)) (he : P.underlying e = some (.int .i64)) (hs : (P.info? e).map (·.size) = some 1) (p q r s : Int) (w : World) :
 (binOp .neq T (.agg #[.int .i64 p, .int .i64 q]) (.agg #[.int .i64 r, .int .i64 s])).run P w = .ok (.bool (!(p == r && q == s))) w := by
 obtain ⟨i, hi, hz⟩ := Option.map_eq_some_iff.1 hs
 have hc : P.cellsOf e = 1 := by simp [Program.cellsOf, hi, hz]
 have h1 : ∀ (d : Nat) (a b : Int), (Op.equalIn (d + 1) e (.int .i64 a) (.int .i64 b)).run P w = .ok (a == b) w := fun d a b => by
  simp [Op.equalIn, run_underlying he]
 have h2 : List.range 2 = [0, 1] := rfl
 rw [run_neq_struct, show (10000 : Nat) = 9999 + 1 from rfl, run_equalIn_array w 9999 _ _ hT hi, hc, h2]
 have hp0 : ∀ (x y : Int), (part e #[.int .i64 x, .int .i64 y] 0).run P w = .ok (.int .i64 x) w := fun x y => by simp [part, isAgg, run_underlying he]
 have hp1 : ∀ (x y : Int), (part e #[.int .i64 x, .int .i64 y] 1).run P w = .ok (.int .i64 y) w := fun x y => by simp [part, isAgg, run_underlying he]
 simp only [Op.eqItems, Sem.run_bind, Nat.zero_mul, Nat.one_mul, hp0, Result.andThen_ok, h1 9998]
 cases hpr : (p == r)
 · simp
 · simp [hp1, h1 9998]
   cases hqs : (q == s) <;> simp_all
end Go.Ren
