/-
  Relations in memory; the contracts of Has, Len, put. No condition.
-/
import Derived.Test.YtkibdabbjbcboaaEvTool
import Derived.Test.YtkibdabbjbcboaaEvMay
import Derived.Test.YtkibdabbjbcboaaPlanT
import Derived.Test.YtkibdabbjbcboaaPlanT
import Derived.Test.YtkibdabbjbcboaaRelBits
namespace Go.Ren
def updN (M : Nat → Nat) (a v : Nat) : Nat → Nat := fun i => if i = a then v else M i
/-- What Has answers. -/
def hasB (n : Nat) (R : Nat → Nat → Bool) (a b : Int) : Bool := decide (0 ≤ a ∧ a < (n : Int) ∧ 0 ≤ b ∧ b < (n : Int)) && R a.toNat b.toNat
end Go.Ren
namespace Go.Proofs.Ytkibdabbjbcboaa
open Go.Ren Go.RowKit
set_option linter.unusedVariables false

theorem IRow : EInfo Try.prog 64 68 1 24 (.slice none 0 0) := ⟨Try.underlying64, by kernel_rfl, rfl, by decide⟩
theorem IU : EInfo Try.prog 68 69 1 8 (.int .u64 0) := ⟨Try.underlying68, by kernel_rfl, rfl, by decide⟩
def rowv (r : Nat → Nat) (i : Nat) : Value := .slice (some ⟨r i, 0, none⟩) 1 1
structure RelAt (w : World) (g : Nat) (rv : Value) (r : Nat → Nat) (n : Nat) (M : Nat → Nat) : Prop where
  box : w.heap[g]? = some (.cells #[.int .i64 (n : Int), rv] 66 (0, 0))
  row : Own w 68 1 rv n ((List.range n).map (rowv r))
  word : ∀ i, i < n → w.heap[r i]? = some (.cells #[.int .u64 (M i : Int)] 69 (0, 0))
  inj : ∀ i j, i < n → j < n → r i = r j → i = j
  lt : ∀ i, i < n → M i < 18446744073709551616
  le : n ≤ 64
def RelFp (g : Nat) (rv : Value) (r : Nat → Nat) (n k : Nat) : Prop := k = g ∨ rv.ownBlock = some k ∨ ∃ i, i < n ∧ k = r i
theorem RelAt.mod {F : Nat → Prop} {w w' : World} {g n : Nat} {rv : Value} {r M : Nat → Nat} (h : RelAt w g rv r n M) (m : Mod F w w') (hF : ∀ k, RelFp g rv r n k → ¬ F k) : RelAt w' g rv r n M :=
  ⟨m.blk h.box (hF _ (.inl rfl)), h.row.mod m (fun k hk => hF _ (.inr (.inl hk))), fun i hi => m.blk (h.word i hi) (hF _ (.inr (.inr ⟨i, hi, rfl⟩))), h.inj, h.lt, h.le⟩
theorem RelAt.ext {w w' : World} {g n : Nat} {rv : Value} {r M : Nat → Nat} (h : RelAt w g rv r n M) (x : Ext w w') : RelAt w' g rv r n M := h.mod x fun _ _ h => h
/-- One word is written. -/
theorem RelAt.put {w : World} {g n : Nat} {rv : Value} {r M : Nat → Nat} (h : RelAt w g rv r n M) {a m : Nat} (ha : a < n) (hm : m < 18446744073709551616) : RelAt (w.setCell ⟨r a, 0, none⟩ (.int .u64 (m : Int))) g rv r n (updN M a m) ∧ Mod (fun k => k = r a) w (w.setCell ⟨r a, 0, none⟩ (.int .u64 (m : Int))) := by
  have M0 : Mod (fun k => k = r a) w (w.setCell ⟨r a, 0, none⟩ (.int .u64 (m : Int))) := Mod.setCell (F := fun k => k = r a) (Mod.refl _ _) (.inl rfl) _
  have hw := h.word a ha
  refine ⟨⟨M0.blk h.box (fun e => ?_), h.row.mod M0 (fun k hk e => ?_), fun i hi => ?_, h.inj, fun i hi => ?_, h.le⟩, M0⟩
  · have hb := h.box
    rw [e, hw] at hb
    simp at hb
  · subst e; exact h.row.apart_obj hw (by decide) hk
  · by_cases e : i = a
    · subst e
      simp [updN, World.setCell, Array.getElem?_modify, hw]
    · have e2 : updN M a m i = M i := by simp [updN, e]
      rw [e2]
      exact M0.blk (h.word i hi) (fun e' => e (h.inj i a hi ha e'))
  · by_cases e : i = a
    · simp [updN, e, hm]
    · simp [updN, e]; exact h.lt i hi
theorem RelAt.facts {w : World} {g n : Nat} {rv : Value} {r M : Nat → Nat} (h : RelAt w g rv r n M) : w.cell? ⟨g, 0, none⟩ = some (.int .i64 (n : Int)) ∧ w.cell? ⟨g, 1, none⟩ = some rv := by simp [World.cell?, h.box]
theorem RelAt.rowc {w : World} {g n : Nat} {rv : Value} {r M : Nat → Nat} (h : RelAt w g rv r n M) {a : Nat} (ha : a < n) : w.cell? (at_ rv a) = some (.slice (some ⟨r a, 0, none⟩) 1 1) :=
  h.row.sl.cell a _ (by simp [rowv, ha])
theorem RelAt.wordc {w : World} {g n : Nat} {rv : Value} {r M : Nat → Nat} (h : RelAt w g rv r n M) {a : Nat} (ha : a < n) : w.cell? ⟨r a, 0, none⟩ = some (.int .u64 (M a : Int)) ∧ w.frozen? ⟨r a, 0, none⟩ = false := by simp [World.cell?, World.frozen?, h.word a ha]

theorem quo64 {b : Nat} (h : b < 64) : (b : Int) / 64 = 0 := by omega
theorem rem64 {b : Nat} (h : b < 64) : (b : Int) % 64 = b := by omega
def PutPost (g : Nat) (rv : Value) (r M : Nat → Nat) (n a b : Nat) (w : World) (e : Ending) (w' : World) : Prop := e = .returned (.tuple #[]) ∧ RelAt w' g rv r n (updN M a (M a ||| 2 ^ b)) ∧ Mod (fun k => k = r a) w w'
set_option maxRecDepth 100000 in
theorem put_any (w : World) (g : Nat) (rv : Value) (r M : Nat → Nat) (n a b : Nat) (h : RelAt w g rv r n M) (ha : a < n) (hb : b < n) :
    Calls Try.prog 47 #[.pointer (some ⟨g, 0, none⟩), .int .i64 (a : Int), .int .i64 (b : Int)] w (PutPost g rv r M n a b w) := by
  have hle := h.le
  have hb64 : b < 64 := by omega
  have i0 := h.row.sl.run_idx (P := Try.prog) IRow.und IRow.size .i64 a ha
  simp only [Nat.mul_one] at i0
  have o1 : ∀ w, (Op.intBits .or .u64 (M a : Int) ((2 ^ b : Nat) : Int)).run Try.prog w = .ok (.int .u64 ((M a ||| 2 ^ b : Nat) : Int)) w := run_or64 (P := Try.prog) 69 (h.lt a ha) (pow_lt64 hb64)
  have o2 : ∀ w, (Op.shift .shl .u64 1 .i64 (b : Int)).run Try.prog w = .ok (.int .u64 ((2 ^ b : Nat) : Int)) w := run_shl64 (P := Try.prog) 69 hb64
  have y2 : (b : Int).tmod 64 = b := by rw [Int.tmod_eq_emod_of_nonneg (by omega)]; omega
  have y3 : (b : Int).tdiv 64 = 0 := by rw [Int.tdiv_eq_ediv_of_nonneg (by omega)]; omega
  have z1 := quo64 hb64
  have z2 := rem64 hb64
  have KF : Hid (∀ w', Ext w w' → (w'.cell? ⟨g, 0, none⟩ = some (.int .i64 (n : Int)) ∧ w'.cell? ⟨g, 1, none⟩ = some rv ∧ w'.cell? (at_ rv a) = some (.slice (some ⟨r a, 0, none⟩) 1 1) ∧ w'.cell? ⟨r a, 0, none⟩ = some (.int .u64 (M a : Int))) ∧ w'.frozen? ⟨r a, 0, none⟩ = false) := Lib.hid fun w' x =>
    ⟨⟨(h.ext x).facts.1, (h.ext x).facts.2, (h.ext x).rowc ha, ((h.ext x).wordc ha).1⟩, ((h.ext x).wordc ha).2⟩
  have HB64 := Lib.hid (h.lt a ha)
  have HH := Lib.hid (h.put ha (or_lt64 (h.lt a ha) (pow_lt64 hb64)))
  have HD := Lib.hid ((h.ext ((Mod.refl _ w).drew)).put ha (or_lt64 (h.lt a ha) (pow_lt64 hb64)))
  have b1 : ¬ (b : Int) < 0 := by omega
  have b2 : (b : Int) < 64 := by omega
  have y0 : IntKind.i64.wrap 0 = 0 := IntWalk.i64_in _ (by omega)
  have y1 : IntKind.i64.wrap (b : Int) = b := IntWalk.i64_in _ (by omega)
  clear h hle ha hb hb64
  go_enter Try.func47, Try.ntmps47
  go_wp2_with fail
  have f0 := (KF.out w.drew (Mod.refl _ w).drew).2
  have c0 := (KF.out w.drew (Mod.refl _ w).drew).1.2.2.2
  refine wp_region_planL [16] [(0, 0), (1, 0), (2, 0), (3, 0), (4, 0), (5, 0), (6, 0), (7, 0), (8, 0), (9, 0), (10, 0), (11, 0), (12, 0), (13, 0), (14, 0), (15, 0), (16, 2)] (fun w' => w'.cell? ⟨g, 0, none⟩ = some (.int .i64 (n : Int)) ∧ w'.cell? ⟨g, 1, none⟩ = some rv ∧ w'.cell? (at_ rv a) = some (.slice (some ⟨r a, 0, none⟩) 1 1) ∧ w'.cell? ⟨r a, 0, none⟩ = some (.int .u64 (M a : Int))) (by kernel_rfl) (by kernel_rfl) (by kernel_rfl) (fun _ d _ _ _ h => by cases d <;> exact h) ((KF.out _ (Mod.drew (Mod.refl _ _))).1) ?_
  simp only [planLL, getO]
  (refine planL_take (v := ?_) (by rfl) (fun wS hS => ?_) ?_; rotate_left; (focus ((try dsimp only at hS); go_simp; (try with_reducible rfl); done)); (try simp only [Act.put, List.setIfInBounds_toArray, List.set_cons_zero, List.set_cons_succ]))
  (refine planL_take (v := ?_) (by rfl) (fun wS hS => ?_) ?_; rotate_left; (focus ((try dsimp only at hS); go_simp; (try with_reducible rfl); done)); (try simp only [Act.put, List.setIfInBounds_toArray, List.set_cons_zero, List.set_cons_succ]))
  (refine planL_take (v := ?_) (by rfl) (fun wS hS => ?_) ?_; rotate_left; (focus ((try dsimp only at hS); go_simp; (try with_reducible rfl); done)); (try simp only [Act.put, List.setIfInBounds_toArray, List.set_cons_zero, List.set_cons_succ]))
  (refine planL_take (v := ?_) (by rfl) (fun wS hS => ?_) ?_; rotate_left; (focus ((try dsimp only at hS); go_simp; (try with_reducible rfl); done)); (try simp only [Act.put, List.setIfInBounds_toArray, List.set_cons_zero, List.set_cons_succ]))
  (refine planL_take (v := ?_) (by rfl) (fun wS hS => ?_) ?_; rotate_left; (focus ((try dsimp only at hS); go_simp; (try with_reducible rfl); done)); (try simp only [Act.put, List.setIfInBounds_toArray, List.set_cons_zero, List.set_cons_succ]))
  (refine planL_take (v := ?_) (by rfl) (fun wS hS => ?_) ?_; rotate_left; (focus ((try dsimp only at hS); go_simp; (try with_reducible rfl); done)); (try simp only [Act.put, List.setIfInBounds_toArray, List.set_cons_zero, List.set_cons_succ]))
  (refine planL_take (v := ?_) (by rfl) (fun wS hS => ?_) ?_; rotate_left; (focus ((try dsimp only at hS); go_simp; (try with_reducible rfl); done)); (try simp only [Act.put, List.setIfInBounds_toArray, List.set_cons_zero, List.set_cons_succ]))
  (refine planL_take (v := ?_) (by rfl) (fun wS hS => ?_) ?_; rotate_left; (focus ((try dsimp only at hS); go_simp; (try with_reducible rfl); done)); (try simp only [Act.put, List.setIfInBounds_toArray, List.set_cons_zero, List.set_cons_succ]))
  (refine planL_take (v := ?_) (by rfl) (fun wS hS => ?_) ?_; rotate_left; (focus ((try dsimp only at hS); go_simp; (try with_reducible rfl); done)); (try simp only [Act.put, List.setIfInBounds_toArray, List.set_cons_zero, List.set_cons_succ]))
  (refine planL_take (v := ?_) (by rfl) (fun wS hS => ?_) ?_; rotate_left; (focus ((try dsimp only at hS); go_simp; (try with_reducible rfl); done)); (try simp only [Act.put, List.setIfInBounds_toArray, List.set_cons_zero, List.set_cons_succ]))
  (refine planL_take (v := ?_) (by rfl) (fun wS hS => ?_) ?_; rotate_left; (focus ((try dsimp only at hS); go_simp; (try with_reducible rfl); done)); (try simp only [Act.put, List.setIfInBounds_toArray, List.set_cons_zero, List.set_cons_succ]))
  (refine planL_take (v := ?_) (by rfl) (fun wS hS => ?_) ?_; rotate_left; (focus ((try dsimp only at hS); go_simp; (try with_reducible rfl); done)); (try simp only [Act.put, List.setIfInBounds_toArray, List.set_cons_zero, List.set_cons_succ]))
  (refine planL_take (v := ?_) (by rfl) (fun wS hS => ?_) ?_; rotate_left; (focus ((try dsimp only at hS); go_simp; (try with_reducible rfl); done)); (try simp only [Act.put, List.setIfInBounds_toArray, List.set_cons_zero, List.set_cons_succ]))
  (refine planL_take (v := ?_) (by rfl) (fun wS hS => ?_) ?_; rotate_left; (focus ((try dsimp only at hS); go_simp; (try with_reducible rfl); done)); (try simp only [Act.put, List.setIfInBounds_toArray, List.set_cons_zero, List.set_cons_succ]))
  (refine planL_take (v := ?_) (by rfl) (fun wS hS => ?_) ?_; rotate_left; (focus ((try dsimp only at hS); go_simp; (try with_reducible rfl); done)); (try simp only [Act.put, List.setIfInBounds_toArray, List.set_cons_zero, List.set_cons_succ]))
  (refine planL_take (v := ?_) (by rfl) (fun wS hS => ?_) ?_; rotate_left; (focus ((try dsimp only at hS); go_simp; (try with_reducible rfl); done)); (try simp only [Act.put, List.setIfInBounds_toArray, List.set_cons_zero, List.set_cons_succ]))
  refine planL_late (fun K hK => ?_)
  go_simp
  refine hK.out _ _ ?_
  clear hK K
  (try simp only [Act.put, List.setIfInBounds_toArray, List.set_cons_zero, List.set_cons_succ])
  refine planL_nil ?_
  go_wp2_with fail
  refine bodyPost_end (results_none rfl _ _ _) rfl ?_
  have e : bits .or .u64 (M a : Int) (IntKind.u64.wrap (2 ^ b)) = ((M a ||| 2 ^ b : Nat) : Int) := by
    have hb64 : b < 64 := by omega
    have := u64_wrap_nat (pow_lt64 hb64)
    rw [show ((2 ^ b : Nat) : Int) = (2 : Int) ^ b by simp] at this
    rw [this]
    have h2 := bits_or64 HB64.out (pow_lt64 hb64)
    rw [show ((2 ^ b : Nat) : Int) = (2 : Int) ^ b by simp] at h2
    exact h2
  rw [e]
  exact ⟨rfl, HH.out.1.ext ((Mod.refl _ _).drew), HH.out.2.drew⟩

/-- A relation that a pointer tells. -/
def RelIs (w : World) (p : Value) (n : Nat) (R : Nat → Nat → Bool) : Prop := ∃ g rv r M, p = .pointer (some ⟨g, 0, none⟩) ∧ RelAt w g rv r n M ∧ ∀ a b, a < n → b < n → (M a).testBit b = R a b
theorem RelIs.ext {w w' : World} {p : Value} {n : Nat} {R : Nat → Nat → Bool} (h : RelIs w p n R) (x : Ext w w') : RelIs w' p n R := by
  obtain ⟨g, rv, r, M, rfl, h1, h2⟩ := h
  exact ⟨g, rv, r, M, rfl, h1.ext x, h2⟩
theorem RelIs.ptr {w : World} {p : Value} {n : Nat} {R : Nat → Nat → Bool} (h : RelIs w p n R) : ∃ g, p = .pointer (some ⟨g, 0, none⟩) := by
  obtain ⟨g, rv, r, M, rfl, h1, h2⟩ := h
  exact ⟨g, rfl⟩
theorem RelIs.len {w : World} {g n : Nat} {R : Nat → Nat → Bool} (h : RelIs w (.pointer (some ⟨g, 0, none⟩)) n R) : w.cell? ⟨g, 0, none⟩ = some (.int .i64 (n : Int)) ∧ n ≤ 64 := by
  obtain ⟨g', rv, r, M, e, h1, h2⟩ := h
  simp at e
  subst e
  exact ⟨h1.facts.1, h1.le⟩
set_option maxRecDepth 100000 in
theorem has_any (w : World) (p : Value) (n : Nat) (R : Nat → Nat → Bool) (h : RelIs w p n R) (a b : Int) :
    Calls Try.prog 29 #[p, .int .i64 a, .int .i64 b] w (FPost (hasB n R a b) w) := by
  obtain ⟨g, rv, r, M, rfl, h1, h2⟩ := h
  obtain ⟨c0, c1⟩ := h1.facts
  obtain ⟨B, hB⟩ : ∃ B, B = hasB n R a b := ⟨_, rfl⟩
  rw [← hB]
  have HB := Lib.hid hB
  clear hB
  rcases (by omega : a < 0 ∨ (0 ≤ a ∧ (n : Int) ≤ a) ∨ (0 ≤ a ∧ a < n ∧ b < 0) ∨ (0 ≤ a ∧ a < n ∧ 0 ≤ b ∧ (n : Int) ≤ b) ∨ (0 ≤ a ∧ a < n ∧ 0 ≤ b ∧ b < n)) with z | ⟨z, z1⟩ | ⟨z, z1, z2⟩ | ⟨z, z1, z2, z3⟩ | ⟨z, z1, z2, z3⟩
  case inr.inr.inr.inr =>
    obtain ⟨a, rfl⟩ := Int.eq_ofNat_of_zero_le z
    obtain ⟨b, rfl⟩ := Int.eq_ofNat_of_zero_le z2
    have ha : a < n := by omega
    have hb : b < n := by omega
    have hle := h1.le
    have hb64 : b < 64 := by omega
    have i0 := h1.row.sl.run_idx (P := Try.prog) IRow.und IRow.size .i64 a ha
    simp only [Nat.mul_one] at i0
    have c2 := h1.rowc ha
    have c3 := (h1.wordc ha).1
    have hbit := bits_bit (h1.lt a ha) b
    have y0 : IntKind.i64.wrap 0 = 0 := IntWalk.i64_in _ (by omega)
    have y1 : IntKind.i64.wrap (b : Int) = b := IntWalk.i64_in _ (by omega)
    have y2 : (b : Int).tmod 64 = b := by rw [Int.tmod_eq_emod_of_nonneg (by omega)]; omega
    have y3 : (b : Int).tdiv 64 = 0 := by rw [Int.tdiv_eq_ediv_of_nonneg (by omega)]; omega
    have z5 := quo64 hb64
    have z6 := rem64 hb64
    have b1 : ¬ (b : Int) < 0 := by omega
    have b2 : (b : Int) < 64 := by omega
    have HF : Hid (B = (bits .and .u64 ((M a : Int) / 2 ^ b) 1 == 1)) := Lib.hid (by
      rw [HB.out, hbit, h2 a b ha hb]
      unfold hasB
      simp [ha, hb])
    clear h1 h2 ha hb hle hb64 hbit
    go_enter Try.func29, Try.ntmps29
    go_wp2_with fail
    go_ret
    exact ⟨ret_bool (by rw [HF.out]), Mod.refl _ _⟩
  all_goals
    have HF : Hid (B = false) := Lib.hid (by
      rw [HB.out]
      unfold hasB
      have : decide (0 ≤ a ∧ a < (n : Int) ∧ 0 ≤ b ∧ b < (n : Int)) = false := by rw [decide_eq_false_iff_not]; omega
      rw [this]; rfl)
    clear h1 h2
    go_enter Try.func29, Try.ntmps29
    go_wp2_with fail
    go_ret
    exact ⟨ret_bool HF.out.symm, Mod.refl _ _⟩
end Go.Proofs.Ytkibdabbjbcboaa
