/-
  Relations in memory; the contracts of Has, Len, put. No condition. The contract of rel.empty. No condition. A relation that is built up: what put makes of it; what chapter 15's relations are. No condition. What happens before what, as a closure of steps. No condition. The contract of rel.Rel's List. No condition.
-/
import Derived.Test.YtbhocahmhmafmaaGreatVEvCopied
import Derived.Test.YtbhocahmhmafmaaGreatVEvMay
import Derived.Test.YtbhocahmhmafmaaGreatVPlan
import Derived.Test.YtbhocahmhmafmaaGreatVBlkLaw
namespace Go.Ren
def updN (M : Nat → Nat) (a v : Nat) : Nat → Nat := fun i => if i = a then v else M i
def hasB (n : Nat) (R : Nat → Nat → Bool) (a b : Int) : Bool := decide (0 ≤ a ∧ a < (n : Int) ∧ 0 ≤ b ∧ b < (n : Int)) && R a.toNat b.toNat
end Go.Ren
namespace Go.Proofs.YtbhocahmhmafmaaGreat
open Go.Ren Go.RowKit
set_option linter.unusedVariables false
theorem IRow : EInfo Tryz.prog 162 167 1 24 (.slice none 0 0) := ⟨Tryz.underlying162, by kernel_rfl, rfl, by decide⟩
theorem IU : EInfo Tryz.prog 167 32 1 8 (.int .u64 0) := ⟨Tryz.underlying167, by kernel_rfl, rfl, by decide⟩
def rowv (r : Nat → Nat) (i : Nat) : Value := .slice (some ⟨r i, 0, none⟩) 1 1
structure RelAt (w : World) (g : Nat) (rv : Value) (r : Nat → Nat) (n : Nat) (M : Nat → Nat) : Prop where
 box : w.heap[g]? = some (.cells #[.int .i64 (n : Int), rv] 164 (0, 0))
 row : Own w 167 1 rv n ((List.range n).map (rowv r))
 word : ∀ i, i < n → w.heap[r i]? = some (.cells #[.int .u64 (M i : Int)] 32 (0, 0))
 inj : ∀ i j, i < n → j < n → r i = r j → i = j
 lt : ∀ i, i < n → M i < 18446744073709551616
 le : n ≤ 64
def RelFp (g : Nat) (rv : Value) (r : Nat → Nat) (n k : Nat) : Prop := k = g ∨ rv.ownBlock = some k ∨ ∃ i, i < n ∧ k = r i
theorem RelAt.mod {F : Nat → Prop} {w w' : World} {g n : Nat} {rv : Value} {r M : Nat → Nat} (h : RelAt w g rv r n M) (m : Mod F w w') (hF : ∀ k, RelFp g rv r n k → ¬ F k) : RelAt w' g rv r n M :=
 ⟨m.blk h.box (hF _ (.inl rfl)), h.row.mod m (fun k hk => hF _ (.inr (.inl hk))), fun i hi => m.blk (h.word i hi) (hF _ (.inr (.inr ⟨i, hi, rfl⟩))), h.inj, h.lt, h.le⟩
theorem RelAt.ext {w w' : World} {g n : Nat} {rv : Value} {r M : Nat → Nat} (h : RelAt w g rv r n M) (x : Ext w w') : RelAt w' g rv r n M := h.mod x fun _ _ h => h
theorem RelAt.put {w : World} {g n : Nat} {rv : Value} {r M : Nat → Nat} (h : RelAt w g rv r n M) {a m : Nat} (ha : a < n) (hm : m < 18446744073709551616) : RelAt (w.setCell ⟨r a, 0, none⟩ (.int .u64 (m : Int))) g rv r n (updN M a m) ∧ Mod (fun k => k = r a) w (w.setCell ⟨r a, 0, none⟩ (.int .u64 (m : Int))) := by
 have M0 : Mod (fun k => k = r a) w (w.setCell ⟨r a, 0, none⟩ (.int .u64 (m : Int))) := Mod.setCell (F := fun k => k = r a) (Mod.refl _ _) (.inl rfl) _
 have hw := h.word a ha
 refine ⟨⟨M0.blk h.box (fun e => ?_), h.row.mod M0 (fun k hk e => ?_), fun i hi => ?_, h.inj, fun i hi => ?_, h.le⟩, M0⟩
 · have hb := h.box
   rw [e, hw] at hb
   simp at hb
 · subst e; exact h.row.apart_obj hw (by decide) hk
 · by_cases e : i = a
   · subst e
     simp [updN, World.setCell, Array.getElem?_modify, hw]
   · have e2 : updN M a m i = M i := by simp [updN, e]
     rw [e2]
     exact M0.blk (h.word i hi) (fun e' => e (h.inj i a hi ha e'))
 · by_cases e : i = a
   · simp [updN, e, hm]
   · simp [updN, e]; exact h.lt i hi
theorem RelAt.facts {w : World} {g n : Nat} {rv : Value} {r M : Nat → Nat} (h : RelAt w g rv r n M) : w.cell? ⟨g, 0, none⟩ = some (.int .i64 (n : Int)) ∧ w.cell? ⟨g, 1, none⟩ = some rv := by simp [World.cell?, h.box]
theorem RelAt.rowc {w : World} {g n : Nat} {rv : Value} {r M : Nat → Nat} (h : RelAt w g rv r n M) {a : Nat} (ha : a < n) : w.cell? (at_ rv a) = some (.slice (some ⟨r a, 0, none⟩) 1 1) :=
 h.row.sl.cell a _ (by simp [rowv, ha])
theorem RelAt.wordc {w : World} {g n : Nat} {rv : Value} {r M : Nat → Nat} (h : RelAt w g rv r n M) {a : Nat} (ha : a < n) : w.cell? ⟨r a, 0, none⟩ = some (.int .u64 (M a : Int)) ∧ w.frozen? ⟨r a, 0, none⟩ = false := by simp [World.cell?, World.frozen?, h.word a ha]
theorem quo64 {b : Nat} (h : b < 64) : (b : Int) / 64 = 0 := by omega
theorem rem64 {b : Nat} (h : b < 64) : (b : Int) % 64 = b := by omega
def PutPost (g : Nat) (rv : Value) (r M : Nat → Nat) (n a b : Nat) (w : World) (e : Ending) (w' : World) : Prop := e = .returned (.tuple #[]) ∧ RelAt w' g rv r n (updN M a (M a ||| 2 ^ b)) ∧ Mod (fun k => k = r a) w w'
set_option maxRecDepth 100000 in
theorem put_any (w : World) (g : Nat) (rv : Value) (r M : Nat → Nat) (n a b : Nat) (h : RelAt w g rv r n M) (ha : a < n) (hb : b < n) :
 Calls Tryz.prog 127 #[.pointer (some ⟨g, 0, none⟩), .int .i64 (a : Int), .int .i64 (b : Int)] w (PutPost g rv r M n a b w) := by
 have hle := h.le
 have hb64 : b < 64 := by omega
 have i0 := h.row.sl.run_idx (P := Tryz.prog) IRow.und IRow.size .i64 a ha
 simp only [Nat.mul_one] at i0
 have o1 : ∀ w, (Op.intBits .or .u64 (M a : Int) ((2 ^ b : Nat) : Int)).run Tryz.prog w = .ok (.int .u64 ((M a ||| 2 ^ b : Nat) : Int)) w := run_or64 (P := Tryz.prog) 32 (h.lt a ha) (pow_lt64 hb64)
 have o2 : ∀ w, (Op.shift .shl .u64 1 .i64 (b : Int)).run Tryz.prog w = .ok (.int .u64 ((2 ^ b : Nat) : Int)) w := run_shl64 (P := Tryz.prog) 32 hb64
 have y2 : (b : Int).tmod 64 = b := by rw [Int.tmod_eq_emod_of_nonneg (by omega)]; omega
 have y3 : (b : Int).tdiv 64 = 0 := by rw [Int.tdiv_eq_ediv_of_nonneg (by omega)]; omega
 have z1 := quo64 hb64
 have z2 := rem64 hb64
 have KF : Hid (∀ w', Ext w w' → (w'.cell? ⟨g, 0, none⟩ = some (.int .i64 (n : Int)) ∧ w'.cell? ⟨g, 1, none⟩ = some rv ∧ w'.cell? (at_ rv a) = some (.slice (some ⟨r a, 0, none⟩) 1 1) ∧ w'.cell? ⟨r a, 0, none⟩ = some (.int .u64 (M a : Int))) ∧ w'.frozen? ⟨r a, 0, none⟩ = false) := Lib.hid fun w' x =>
  ⟨⟨(h.ext x).facts.1, (h.ext x).facts.2, (h.ext x).rowc ha, ((h.ext x).wordc ha).1⟩, ((h.ext x).wordc ha).2⟩
 have HB64 := Lib.hid (h.lt a ha)
 have HH := Lib.hid (h.put ha (or_lt64 (h.lt a ha) (pow_lt64 hb64)))
 have HD := Lib.hid ((h.ext ((Mod.refl _ w).drew)).put ha (or_lt64 (h.lt a ha) (pow_lt64 hb64)))
 have b1 : ¬ (b : Int) < 0 := by omega
 have b2 : (b : Int) < 64 := by omega
 have y0 : IntKind.i64.wrap 0 = 0 := IntWalk.i64_in _ (by omega)
 have y1 : IntKind.i64.wrap (b : Int) = b := IntWalk.i64_in _ (by omega)
 clear h hle ha hb hb64
 go_enter Tryz.func127, Tryz.ntmps127
 go_wp2_with fail
 have f0 := (KF.out w.drew (Mod.refl _ w).drew).2
 have c0 := (KF.out w.drew (Mod.refl _ w).drew).1.2.2.2
 refine wp_region_planL [16] [(0, 0), (1, 0), (2, 0), (3, 0), (4, 0), (5, 0), (6, 0), (7, 0), (8, 0), (9, 0), (10, 0), (11, 0), (12, 0), (13, 0), (14, 0), (15, 0), (16, 2)] (fun w' => w'.cell? ⟨g, 0, none⟩ = some (.int .i64 (n : Int)) ∧ w'.cell? ⟨g, 1, none⟩ = some rv ∧ w'.cell? (at_ rv a) = some (.slice (some ⟨r a, 0, none⟩) 1 1) ∧ w'.cell? ⟨r a, 0, none⟩ = some (.int .u64 (M a : Int))) (by kernel_rfl) (by kernel_rfl) (by kernel_rfl) (fun _ d _ _ _ h => by cases d <;> exact h) ((KF.out _ (Mod.drew (Mod.refl _ _))).1) ?_
 simp only [planLL, getO]
 iterate 16 (refine planL_take (v := ?_) (by rfl) (fun wS hS => ?_) ?_; rotate_left; (focus ((try dsimp only at hS); go_simp; (try with_reducible rfl); done)); (try simp only [Act.put, List.setIfInBounds_toArray, List.set_cons_zero, List.set_cons_succ]))
 refine planL_late (fun K hK => ?_)
 go_simp
 refine hK.out _ _ ?_
 clear hK K
 (try simp only [Act.put, List.setIfInBounds_toArray, List.set_cons_zero, List.set_cons_succ])
 refine planL_nil ?_
 go_wp2_with fail
 refine bodyPost_end (results_none rfl _ _ _) rfl ?_
 have e : bits .or .u64 (M a : Int) (IntKind.u64.wrap (2 ^ b)) = ((M a ||| 2 ^ b : Nat) : Int) := by
  have hb64 : b < 64 := by omega
  have := u64_wrap_nat (pow_lt64 hb64)
  rw [show ((2 ^ b : Nat) : Int) = (2 : Int) ^ b by simp] at this
  rw [this]
  have h2 := bits_or64 HB64.out (pow_lt64 hb64)
  rw [show ((2 ^ b : Nat) : Int) = (2 : Int) ^ b by simp] at h2
  exact h2
 rw [e]
 exact ⟨rfl, HH.out.1.ext ((Mod.refl _ _).drew), HH.out.2.drew⟩
def RelIs (w : World) (p : Value) (n : Nat) (R : Nat → Nat → Bool) : Prop := ∃ g rv r M, p = .pointer (some ⟨g, 0, none⟩) ∧ RelAt w g rv r n M ∧ ∀ a b, a < n → b < n → (M a).testBit b = R a b
theorem RelIs.ext {w w' : World} {p : Value} {n : Nat} {R : Nat → Nat → Bool} (h : RelIs w p n R) (x : Ext w w') : RelIs w' p n R := by
 obtain ⟨g, rv, r, M, rfl, h1, h2⟩ := h
 exact ⟨g, rv, r, M, rfl, h1.ext x, h2⟩
theorem RelIs.ptr {w : World} {p : Value} {n : Nat} {R : Nat → Nat → Bool} (h : RelIs w p n R) : ∃ g, p = .pointer (some ⟨g, 0, none⟩) := by
 obtain ⟨g, rv, r, M, rfl, h1, h2⟩ := h
 exact ⟨g, rfl⟩
theorem RelIs.len {w : World} {g n : Nat} {R : Nat → Nat → Bool} (h : RelIs w (.pointer (some ⟨g, 0, none⟩)) n R) : w.cell? ⟨g, 0, none⟩ = some (.int .i64 (n : Int)) ∧ n ≤ 64 := by
 obtain ⟨g', rv, r, M, e, h1, h2⟩ := h
 simp at e
 subst e
 exact ⟨h1.facts.1, h1.le⟩
set_option maxRecDepth 100000 in
theorem has_any (w : World) (p : Value) (n : Nat) (R : Nat → Nat → Bool) (h : RelIs w p n R) (a b : Int) :
 Calls Tryz.prog 126 #[p, .int .i64 a, .int .i64 b] w (FPost (hasB n R a b) w) := by
 obtain ⟨g, rv, r, M, rfl, h1, h2⟩ := h
 obtain ⟨c0, c1⟩ := h1.facts
 obtain ⟨B, hB⟩ : ∃ B, B = hasB n R a b := ⟨_, rfl⟩
 rw [← hB]
 have HB := Lib.hid hB
 clear hB
 rcases (by omega : a < 0 ∨ (0 ≤ a ∧ (n : Int) ≤ a) ∨ (0 ≤ a ∧ a < n ∧ b < 0) ∨ (0 ≤ a ∧ a < n ∧ 0 ≤ b ∧ (n : Int) ≤ b) ∨ (0 ≤ a ∧ a < n ∧ 0 ≤ b ∧ b < n)) with z | ⟨z, z1⟩ | ⟨z, z1, z2⟩ | ⟨z, z1, z2, z3⟩ | ⟨z, z1, z2, z3⟩
 case inr.inr.inr.inr =>
  obtain ⟨a, rfl⟩ := Int.eq_ofNat_of_zero_le z
  obtain ⟨b, rfl⟩ := Int.eq_ofNat_of_zero_le z2
  have ha : a < n := by omega
  have hb : b < n := by omega
  have hle := h1.le
  have hb64 : b < 64 := by omega
  have i0 := h1.row.sl.run_idx (P := Tryz.prog) IRow.und IRow.size .i64 a ha
  simp only [Nat.mul_one] at i0
  have c2 := h1.rowc ha
  have c3 := (h1.wordc ha).1
  have hbit := bits_bit (h1.lt a ha) b
  have y0 : IntKind.i64.wrap 0 = 0 := IntWalk.i64_in _ (by omega)
  have y1 : IntKind.i64.wrap (b : Int) = b := IntWalk.i64_in _ (by omega)
  have y2 : (b : Int).tmod 64 = b := by rw [Int.tmod_eq_emod_of_nonneg (by omega)]; omega
  have y3 : (b : Int).tdiv 64 = 0 := by rw [Int.tdiv_eq_ediv_of_nonneg (by omega)]; omega
  have z5 := quo64 hb64
  have z6 := rem64 hb64
  have b1 : ¬ (b : Int) < 0 := by omega
  have b2 : (b : Int) < 64 := by omega
  have HF : Hid (B = (bits .and .u64 ((M a : Int) / 2 ^ b) 1 == 1)) := Lib.hid (by
   rw [HB.out, hbit, h2 a b ha hb]
   unfold hasB
   simp [ha, hb])
  clear h1 h2 ha hb hle hb64 hbit
  go_enter Tryz.func126, Tryz.ntmps126
  go_wp2_with fail
  go_ret
  exact ⟨ret_bool (by rw [HF.out]), Mod.refl _ _⟩
 all_goals
  have HF : Hid (B = false) := Lib.hid (by
   rw [HB.out]
   unfold hasB
   have : decide (0 ≤ a ∧ a < (n : Int) ∧ 0 ≤ b ∧ b < (n : Int)) = false := by rw [decide_eq_false_iff_not]; omega
   rw [this]; rfl)
  clear h1 h2
  go_enter Tryz.func126, Tryz.ntmps126
  go_wp2_with fail
  go_ret
  exact ⟨ret_bool HF.out.symm, Mod.refl _ _⟩
end Go.Proofs.YtbhocahmhmafmaaGreat
namespace Go.Proofs.YtbhocahmhmafmaaGreat
open Go.Ren Go.RowKit
set_option linter.unusedVariables false
def rowz (r : Nat → Nat) (i j : Nat) : Value := if j < i then rowv r j else .slice none 0 0
structure EmptyRel (w0 : World) (g : Nat) (rv : Value) (n i : Nat) (wr : World) : Prop where
 ex : ∃ r : Nat → Nat, Own wr 167 1 rv n ((List.range n).map (rowz r i)) ∧ (∀ j, j < i → wr.heap[r j]? = some (.cells #[.int .u64 0] 32 (0, 0))) ∧ (∀ j k, j < i → k < i → r j = r k → j = k) ∧ ∀ j, j < i → w0.heap.size ≤ r j
 md : Mod (fun k => rv.ownBlock = some k) w0 wr
def RelPost (n : Nat) (R : Nat → Nat → Bool) (w : World) (e : Ending) (w' : World) : Prop := ∃ g rv r M, e = .returned (.pointer (some ⟨g, 0, none⟩)) ∧ RelAt w' g rv r n M ∧ (∀ a b, a < n → b < n → (M a).testBit b = R a b) ∧ Ext w w' ∧ ∀ k, RelFp g rv r n k → w.heap.size ≤ k
theorem range_map_set {f g : Nat → Value} {n i : Nat} (v : Value) (hi : i < n) (h : ∀ j, j < n → j ≠ i → f j = g j) (hv : g i = v) : ((List.range n).map f).set i v = (List.range n).map g := by
 apply List.ext_getElem?
 intro j
 rw [List.getElem?_set]
 by_cases e : i = j
 · subst e; simp [hi, hv]
 · simp only [e, if_false, List.getElem?_map]
   by_cases hj : j < n
   · simp [List.getElem?_range hj, h j hj (Ne.symm e)]
   · simp [List.getElem?_eq_none (show (List.range n).length ≤ j by simp; omega)]
set_option maxRecDepth 100000 in
set_option maxHeartbeats 800000 in
theorem rempty_any (w : World) (n : Nat) (hn : n ≤ 64) :
 Calls Tryz.prog 158 #[.int .i64 (n : Int)] w (RelPost n (fun _ _ => false) w) := by
 have m1 := run_make_row' (P := Tryz.prog) 162 167 (.slice none 0 0) 24 IRow.und IRow.info rfl .i64 .i64 n (by omega) (by omega)
 have m2 : ∀ w : World, (Instr.makeSlice 167 (.int .i64 1) (.int .i64 1)).run Tryz.prog w = .ok (.slice (some ⟨w.heap.size, 0, none⟩) 1 1) (w.alloc (.cells #[.int .u64 0] 32)) := fun w => by
  have h := run_make_row' (P := Tryz.prog) 167 32 (.int .u64 0) 8 IU.und IU.info rfl .i64 .i64 1 (by omega) (by omega) w
  have e : madeCells #[.int .u64 0] 1 = #[.int .u64 0] := by rw [← Array.toList_inj, toList_madeCells_one]; rfl
  rw [e] at h; exact h
 have HN := Lib.hid hn
 go_enter Tryz.func158, Tryz.ntmps158
 go_upto_region 2 with fail
 obtain ⟨w0, hw0⟩ : ∃ w0, w0 = (w.alloc (.cells (madeCells #[.slice none 0 0] n) 167)).alloc (.cells #[.int .i64 (n : Int), .slice (some ⟨w.heap.size, 0, none⟩) n n] 164) := ⟨_, rfl⟩
 obtain ⟨rv, hrv⟩ : ∃ rv : Value, rv = .slice (some ⟨w.heap.size, 0, none⟩) n n := ⟨_, rfl⟩
 rw [← hrv] at hw0
 rw [← hrv, ← hw0]
 obtain ⟨g, hg⟩ : ∃ g, g = w.heap.size + 1 := ⟨_, rfl⟩
 rw [← hg]
 have x0 : Ext w w0 := by rw [hw0]; exact ((Mod.refl _ _).alloc _).alloc _
 have b0 : w0.heap[g]? = some (.cells #[.int .i64 (n : Int), rv] 164 (0, 0)) := by rw [hw0, hg]; exact heap_alloc2_new _ _ _
 have o0 : Own w0 167 1 rv n ((List.range n).map (rowz (fun _ => 0) 0)) := by
  have h1 : w0.heap[w.heap.size]? = some (.cells (madeCells #[.slice none 0 0] n) 167 (0, 0)) := by rw [hw0]; exact heap_alloc2_old _ _ _
  have h2 := Own.made_at h1 (by simp [maxLen]; omega)
  rw [hrv]
  have e : (List.range n).map (rowz (fun _ => 0) 0) = List.replicate n (.slice none 0 0) := by
   apply List.ext_getElem?
   intro j
   by_cases hj : j < n
   · simp [hj, rowz]
   · simp [hj]
  rw [e]; exact h2
 have R0 : EmptyRel w0 g rv n 0 w0 := ⟨⟨fun _ => 0, o0, fun j hj => absurd hj (Nat.not_lt_zero _), fun j k hj => absurd hj (Nat.not_lt_zero _), fun j hj => absurd hj (Nat.not_lt_zero _)⟩, Mod.refl _ _⟩
 have hrb : rv.ownBlock = some w.heap.size := by rw [hrv]; rfl
 have HW := Lib.hid (And.intro x0 (And.intro b0 (And.intro hg hrb)))
 have KE : Hid (∀ w', Mod (fun k => rv.ownBlock = some k) w0 w' → w'.heap[g]? = some (.cells #[.int .i64 (n : Int), rv] 164 (0, 0)) ∧ w'.cell? ⟨g, 0, none⟩ = some (.int .i64 (n : Int)) ∧ w'.cell? ⟨g, 1, none⟩ = some rv) := Lib.hid fun w' m => by
  have hb := m.blk b0 (fun e => by rw [hrb] at e; simp at e; omega)
  exact ⟨hb, by simp [World.cell?, hb], by simp [World.cell?, hb]⟩
 have l0 := o0.sl.run_len (P := Tryz.prog) IRow.und 3
 have I0 := Lib.hid (o0.sl.run_idx (P := Tryz.prog) IRow.und IRow.size .i64)
 clear hw0 hrv hg x0 b0 o0 hrb m1
 obtain ⟨-, c0, c1⟩ := KE.out w0 (Mod.refl _ _)
 go_wp2_with fail
 clear c0 c1
 go_loopw [15] (fun s15 wr => ∃ i : Nat, i ≤ n ∧ s15 = .int .i64 (i : Int) ∧ EmptyRel w0 g rv n i wr) (fun s _ => n - (intOf s).toNat)
 case atStart => exact ⟨0, Nat.zero_le _, rfl, R0⟩
 case round =>
  obtain ⟨i, hi, rfl, ⟨⟨r, ho, hz, hinj, hfr⟩, md⟩⟩ := hrel
  clear R0
  by_cases hlt : i < n
  · have hlt' : (i : Int) < (n : Int) := by omega
    have i0 := I0.out i hlt
    simp only [Nat.mul_one] at i0
    have y0 : IntKind.i64.wrap ((n : Int) + 63) = n + 63 := IntWalk.i64_in _ (by omega)
    have y1 : ((n : Int) + 63).tdiv 64 = 1 := by rw [Int.tdiv_eq_ediv_of_nonneg (by omega)]; omega
    have y2 : ((n : Int) + 63) / 64 = 1 := by omega
    have y3 : IntKind.i64.wrap 1 = 1 := IntWalk.i64_in _ (by omega)
    have HZ : Hid (((List.range n).map (rowz r i))[i]? = some (.slice none 0 0)) := Lib.hid (by simp [hlt, rowz])
    have HR := Lib.hid (And.intro ho (And.intro hz (And.intro hinj (And.intro hfr md))))
    have KF : Hid (∀ w', Ext wr w' → w'.cell? ⟨g, 0, none⟩ = some (.int .i64 (n : Int)) ∧ w'.cell? ⟨g, 1, none⟩ = some rv) := Lib.hid fun w' x => (KE.out w' (md.ext x)).2
    clear ho hz hinj hfr md hn
    go_wp2_with fail
    refine wp_region_planL [10] [(0, 0), (1, 0), (2, 0), (3, 0), (4, 0), (5, 0), (6, 0), (7, 0), (8, 1), (9, 0), (10, 2)] (fun w' => w'.cell? ⟨g, 0, none⟩ = some (.int .i64 (n : Int)) ∧ w'.cell? ⟨g, 1, none⟩ = some rv) (by kernel_rfl) (by kernel_rfl) (by kernel_rfl) (fun _ d _ _ _ h => by cases d <;> exact h) (KF.out _ (Mod.drew (Mod.refl _ _))) ?_
    simp only [planLL, getO]
    iterate 8 (refine planL_take (v := ?_) (by rfl) (fun wS hS => ?_) ?_; rotate_left; (focus ((try dsimp only at hS); go_simp; (try with_reducible rfl); done)); (try simp only [Act.put, List.setIfInBounds_toArray, List.set_cons_zero, List.set_cons_succ]))
    refine planL_call (fun K hK => ?_)
    go_simp
    obtain ⟨w8, hw8⟩ : ∃ x, x = (wr.alloc (.cells #[.int .u64 0] 32)).drew := ⟨_, rfl⟩; rw [← hw8]; obtain ⟨g8, hg8⟩ : ∃ x, x = wr.heap.size := ⟨_, rfl⟩; rw [← hg8]; have x8 : Ext wr w8 := (by rw [hw8]; exact ((Mod.refl _ _).alloc _).drew); have b8 : w8.heap[g8]? = some (.cells #[.int .u64 0] 32 (0, 0)) := (by rw [hw8, hg8, heap_drew]; exact heap_alloc_new _ _); have o8 := HR.out.1.ext x8; have f8 := o8.frozen i (by omega); have c8 := o8.sl.cell i _ HZ.out; have H8 := Lib.hid (And.intro hg8 (And.intro x8 (And.intro b8 o8))); clear hw8 hg8 x8 b8 o8
    refine hK.out _ _ (KF.out _ H8.out.2.1) ?_
    clear hK K
    (try simp only [Act.put, List.setIfInBounds_toArray, List.set_cons_zero, List.set_cons_succ])
    (refine planL_take (v := ?_) (by rfl) (fun wS hS => ?_) ?_; rotate_left; (focus ((try dsimp only at hS); go_simp; (try with_reducible rfl); done)); (try simp only [Act.put, List.setIfInBounds_toArray, List.set_cons_zero, List.set_cons_succ]))
    refine planL_late (fun K hK => ?_)
    go_simp
    refine hK.out _ _ ?_
    clear hK K
    (try simp only [Act.put, List.setIfInBounds_toArray, List.set_cons_zero, List.set_cons_succ])
    refine planL_nil ?_
    go_wp2_with fail
    go_roundw
    case rel =>
     obtain ⟨hg8, x8, b8, o8⟩ := H8.out
     obtain ⟨ho, hz, hinj, hfr, md⟩ := HR.out
     have hn0 : 0 < n := by omega
     have os := o8.set hn0 i (rowv (updN r i g8) i)
     have er : rowv (updN r i g8) i = .slice (some ⟨g8, 0, none⟩) 1 1 := by simp [rowv, updN]
     have M8 : Mod (fun k => rv.ownBlock = some k) w8 (w8.setCell (at_ rv i) (rowv (updN r i g8) i)) := Mod.setCell (F := fun k => rv.ownBlock = some k) (Mod.refl _ _) (.inl (o8.at_block hn0 i)) _
     rw [er] at M8 os
     have hrl : ∀ j, j < i → r j < wr.heap.size := fun j hj => lt_of_block (hz j hj)
     refine ⟨i + 1, by omega, by go_num, ⟨⟨updN r i g8, ?_, fun j hj => ?_, fun j k hj hk he => ?_, fun j hj => ?_⟩, (md.ext x8).trans M8⟩⟩
     · rw [← range_map_set (f := rowz r i) (i := i) (.slice (some ⟨g8, 0, none⟩) 1 1) hlt (fun j hj hne => ?_) (by simp [rowz, er])]
       · exact os
       · by_cases h1 : j < i
         · simp [rowz, h1, show j < i + 1 by omega, rowv, updN, hne]
         · simp [rowz, h1, show ¬ j < i + 1 by omega]
     · by_cases e0 : j = i
       · subst e0
         simp only [updN, if_true]
         exact M8.blk b8 (fun e => o8.apart_obj b8 (by decide) e)
       · have e1 : updN r i g8 j = r j := by simp [updN, e0]
         rw [e1]
         exact M8.blk (x8.blk (hz j (by omega))) (fun e => o8.apart_obj (x8.blk (hz j (by omega))) (by decide) e)
     · by_cases ej : j = i
       · by_cases ek : k = i
         · omega
         · have h1 : updN r i g8 j = g8 := by simp [updN, ej]
           have h2 : updN r i g8 k = r k := by simp [updN, ek]
           have := hrl k (by omega)
           rw [h1, h2] at he; omega
       · by_cases ek : k = i
         · have h1 : updN r i g8 k = g8 := by simp [updN, ek]
           have h2 : updN r i g8 j = r j := by simp [updN, ej]
           have := hrl j (by omega)
           rw [h1, h2] at he; omega
         · have h1 : updN r i g8 k = r k := by simp [updN, ek]
           have h2 : updN r i g8 j = r j := by simp [updN, ej]
           rw [h1, h2] at he
           exact hinj j k (by omega) (by omega) he
     · by_cases ej : j = i
       · have h1 : updN r i g8 j = g8 := by simp [updN, ej]
         rw [h1]; have := md.size; omega
       · have h2 : updN r i g8 j = r j := by simp [updN, ej]
         rw [h2]; exact hfr j (by omega)
    case measure => simp [intOf]; omega
  · have hlt' : ¬ (i : Int) < (n : Int) := by omega
    obtain rfl : i = n := by omega
    have HR := Lib.hid (And.intro ho (And.intro hz (And.intro hinj (And.intro hfr md))))
    clear ho hz hinj hfr md
    go_wp2_with fail
    go_ret
    obtain ⟨ho, hz, hinj, hfr, md⟩ := HR.out
    obtain ⟨x0, b0, hg, hrb⟩ := HW.out
    have hs := x0.size
    refine ⟨g, rv, r, fun _ => 0, rfl, ⟨(KE.out _ md).1, ?_, hz, hinj, fun _ _ => by decide, HN.out⟩, fun a b _ _ => by simp, x0.trans' md (fun k hk => .inr (by rw [hrb] at hk; simp at hk; omega)), fun k hk => ?_⟩
    · have e : (List.range i).map (rowz r i) = (List.range i).map (rowv r) := List.map_congr_left fun j hj => by simp [rowz, List.mem_range.1 hj]
      rw [← e]; exact ho
    · rcases hk with h | h | ⟨j, hj, h⟩
      · omega
      · rw [hrb] at h; simp at h; omega
      · have := hfr j hj; omega
end Go.Proofs.YtbhocahmhmafmaaGreat
namespace Go.Ren
set_option linter.unusedVariables false
def putR (R : Nat → Nat → Bool) (a b : Nat) : Nat → Nat → Bool := fun x y => R x y || (decide (x = a) && decide (y = b))
theorem put_bits {n : Nat} {M : Nat → Nat} {R : Nat → Nat → Bool} (h : ∀ a b, a < n → b < n → (M a).testBit b = R a b) (a b : Nat) : ∀ x y, x < n → y < n → (updN M a (M a ||| 2 ^ b) x).testBit y = putR R a b x y := by
 intro x y hx hy
 unfold putR updN
 by_cases e : x = a
 · subst e
   simp only [if_true, decide_true, Bool.true_and]
   rw [testBit_put, h x y hx hy]
   congr 1
   rw [Bool.eq_iff_iff]; simp; exact eq_comm
 · simp [e, h x y hx hy]
def relN (L : Lg) : Nat := if mayL L = true then L.ev.length else 0
def fromB (L : Lg) (a b : Nat) : Bool := (evn L.ev b).fr.contains (a : Int)
def synE (L : Lg) (a b : Nat) : Bool := fromB L a b && (evn L.ev a).seq && (evn L.ev b).seq && evEq (evn L.ev a) (evn L.ev b)
def synB (L : Lg) (a b : Nat) : Bool := synE L a b || L.pr.contains ((a : Int), (b : Int))
theorem may_from {L : Lg} (h : mayL L = true) {b k : Nat} (hb : b < L.ev.length) (hk : k < (evn L.ev b).fr.length) : (evn L.ev b).fr[k] = -1 ∨ ∃ a : Nat, (evn L.ev b).fr[k] = (a : Int) ∧ a < b := by
 have h1 := evOk1_reads ((mayL_iff.1 h).2.1 b hb) k hk
 unfold evRead1 at h1
 simp only [List.getD_eq_getElem?_getD, List.getElem?_eq_getElem hk, Option.getD_some] at h1
 split at h1
 · exact .inl ‹_›
 · split at h1
   · cases h1
   · rename_i h2 h3
     exact .inr ⟨(evn L.ev b).fr[k].toNat, by omega, by omega⟩
theorem fromB_lt {L : Lg} (h : mayL L = true) {a b : Nat} (hb : b < L.ev.length) (hf : fromB L a b = true) : a < b := by
 unfold fromB at hf
 rw [List.contains_iff_mem] at hf
 obtain ⟨k, hk, e⟩ := List.getElem_of_mem hf
 rcases may_from h hb hk with h1 | ⟨c, h1, h2⟩ <;> omega
theorem may_pair {L : Lg} (h : mayL L = true) {i : Nat} (hi : i < L.pr.length) : ∃ a b : Nat, prn L.pr i = ((a : Int), (b : Int)) ∧ a < b ∧ b < L.ev.length := by
 have := (mayL_iff.1 h).2.2 i hi
 unfold prOk at this
 simp only [decide_eq_true_eq] at this
 refine ⟨(prn L.pr i).1.toNat, (prn L.pr i).2.toNat, Prod.ext (by simp; omega) (by simp; omega), by omega, by omega⟩
theorem synB_lt {L : Lg} (h : mayL L = true) {a b : Nat} (hb : b < L.ev.length) (hs : synB L a b = true) : a < b := by
 unfold synB at hs
 rw [Bool.or_eq_true] at hs
 rcases hs with h1 | h1
 · unfold synE at h1
   simp only [Bool.and_eq_true] at h1
   exact fromB_lt h hb h1.1.1.1
 · rw [List.contains_iff_mem] at h1
   obtain ⟨i, hi, e⟩ := List.getElem_of_mem h1
   obtain ⟨x, y, e2, h2, _⟩ := may_pair h hi
   rw [prn_eq hi, e] at e2
   simp at e2
   omega
theorem may_small {L : Lg} (h : mayL L = true) {b : Nat} (hb : b < L.ev.length) : (evn L.ev b).fr.length ≤ 8 := (evFields_sizes (evOk1_fields ((mayL_iff.1 h).2.1 b hb))).1
end Go.Ren
namespace Go.Proofs.YtbhocahmhmafmaaGreat
open Go.Ren Go.RowKit
set_option linter.unusedVariables false
structure RelLoop (w0 : World) (g : Nat) (rv : Value) (r : Nat → Nat) (n : Nat) (R : Nat → Nat → Bool) (wr : World) : Prop where
 ex : ∃ M, RelAt wr g rv r n M ∧ ∀ a b, a < n → b < n → (M a).testBit b = R a b
 x : Ext w0 wr
 fr : ∀ k, RelFp g rv r n k → w0.heap.size ≤ k
theorem RelLoop.congr {w0 wr : World} {g n : Nat} {rv : Value} {r : Nat → Nat} {R R' : Nat → Nat → Bool} (h : RelLoop w0 g rv r n R wr) (e : ∀ a b, a < n → b < n → R a b = R' a b) : RelLoop w0 g rv r n R' wr := by
 obtain ⟨M, h1, h2⟩ := h.ex
 exact ⟨⟨M, h1, fun a b ha hb => (h2 a b ha hb).trans (e a b ha hb)⟩, h.x, h.fr⟩
theorem RelLoop.ext {w0 wr w' : World} {g n : Nat} {rv : Value} {r : Nat → Nat} {R : Nat → Nat → Bool} (h : RelLoop w0 g rv r n R wr) (x : Ext wr w') : RelLoop w0 g rv r n R w' := by
 obtain ⟨M, h1, h2⟩ := h.ex
 exact ⟨⟨M, h1.ext x, h2⟩, h.x.trans x, h.fr⟩
theorem RelLoop.le {w0 wr : World} {g n : Nat} {rv : Value} {r : Nat → Nat} {R : Nat → Nat → Bool} (h : RelLoop w0 g rv r n R wr) : n ≤ 64 := by obtain ⟨M, h1, h2⟩ := h.ex; exact h1.le
theorem RelLoop.is {w0 wr : World} {g n : Nat} {rv : Value} {r : Nat → Nat} {R : Nat → Nat → Bool} (h : RelLoop w0 g rv r n R wr) : RelIs wr (.pointer (some ⟨g, 0, none⟩)) n R := by
 obtain ⟨M, h1, h2⟩ := h.ex; exact ⟨g, rv, r, M, rfl, h1, h2⟩
theorem RelLoop.len {w0 wr : World} {g n : Nat} {rv : Value} {r : Nat → Nat} {R : Nat → Nat → Bool} (h : RelLoop w0 g rv r n R wr) : wr.cell? ⟨g, 0, none⟩ = some (.int .i64 (n : Int)) ∧ wr.cell? ⟨g, 1, none⟩ = some rv := by
 obtain ⟨M, h1, h2⟩ := h.ex; exact h1.facts
theorem RelLoop.apart {w0 wr : World} {g n : Nat} {rv : Value} {r : Nat → Nat} {R : Nat → Nat → Bool} (h : RelLoop w0 g rv r n R wr) {k : Nat} {cs : Array Value} {T : TypeId} (hb : wr.heap[k]? = some (.cells cs T (0, 0))) (h1 : 164 ≠ T) (h2 : 167 ≠ T) (h3 : 32 ≠ T) : ¬ RelFp g rv r n k := by
 obtain ⟨M, ha, -⟩ := h.ex
 rintro (e | e | ⟨i, hi, e⟩)
 · subst e; rw [ha.box] at hb; simp at hb; exact h1 hb.2
 · exact ha.row.apart_obj hb h2 e
 · subst e; rw [ha.word i hi] at hb; simp at hb; exact h3 hb.2
def RPutPost (w0 : World) (g : Nat) (rv : Value) (r : Nat → Nat) (n : Nat) (R : Nat → Nat → Bool) (w : World) (e : Ending) (w' : World) : Prop := e = .returned (.tuple #[]) ∧ RelLoop w0 g rv r n R w' ∧ Mod (RelFp g rv r n) w w'
theorem rput_any (w0 w : World) (g : Nat) (rv : Value) (r : Nat → Nat) (n : Nat) (R : Nat → Nat → Bool) (h : RelLoop w0 g rv r n R w) (a b : Nat) (ha : a < n) (hb : b < n) :
 Calls Tryz.prog 127 #[.pointer (some ⟨g, 0, none⟩), .int .i64 (a : Int), .int .i64 (b : Int)] w (RPutPost w0 g rv r n (putR R a b) w) := by
 obtain ⟨⟨M, h1, h2⟩, x, fr⟩ := h
 refine (put_any w g rv r M n a b h1 ha hb).mono ?_
 rintro e w' ⟨rfl, p1, p2⟩
 have p3 : Mod (RelFp g rv r n) w w' := p2.weak (fun i hi => .inl (.inr (.inr ⟨a, ha, hi⟩)))
 exact ⟨rfl, ⟨⟨_, p1, put_bits h2 a b⟩, x.trans' p3 (fun i hi => .inr (fr i hi)), fr⟩, p3⟩
theorem RelPost.loop {n : Nat} {R : Nat → Nat → Bool} {w : World} {e : Ending} {w' : World} (h : RelPost n R w e w') : ∃ g rv r, e = .returned (.pointer (some ⟨g, 0, none⟩)) ∧ RelLoop w g rv r n R w' := by
 obtain ⟨g, rv, r, M, h1, h2, h3, h4, h5⟩ := h
 exact ⟨g, rv, r, h1, ⟨⟨M, h2, h3⟩, h4, h5⟩⟩
theorem RelLoop.post {w0 wr : World} {g n : Nat} {rv : Value} {r : Nat → Nat} {R : Nat → Nat → Bool} (h : RelLoop w0 g rv r n R wr) : RelPost n R w0 (.returned (.pointer (some ⟨g, 0, none⟩))) wr := by
 obtain ⟨⟨M, h1, h2⟩, x, fr⟩ := h
 exact ⟨g, rv, r, M, rfl, h1, h2, x, fr⟩
theorem RelLoop.back {w1 w0 wr : World} {g n : Nat} {rv : Value} {r : Nat → Nat} {R : Nat → Nat → Bool} (h : RelLoop w0 g rv r n R wr) (x : Ext w1 w0) : RelLoop w1 g rv r n R wr :=
 ⟨h.ex, x.trans h.x, fun k hk => Nat.le_trans x.size (h.fr k hk)⟩
theorem RelPost.none {w1 w2 w : World} {e : Ending} {L : Lg} {R R' : Nat → Nat → Bool} (h : RelPost 0 R w1 e w2) (hm : mayL L = false) (x : Ext w w1) : RelPost (relN L) R' w e w2 := by
 have e0 : relN L = 0 := by unfold relN; rw [hm]; rfl
 rw [e0]
 obtain ⟨g, rv, r, M, h1, h2, h3, h4, h5⟩ := h
 exact ⟨g, rv, r, M, h1, h2, fun a b ha => absurd ha (Nat.not_lt_zero _), x.trans h4, fun k hk => Nat.le_trans x.size (h5 k hk)⟩
end Go.Proofs.YtbhocahmhmafmaaGreat
namespace Go.Ren
set_option linter.unusedVariables false
def hbW (S : Nat → Nat → Bool) : Nat → Nat → Nat → Bool
 | 0, a, b => S a b
 | c + 1, a, b => hbW S c a b || (hbW S c a c && hbW S c c b)
def stepB (L : Lg) (a b : Nat) : Bool := decide (a < b) && decide (b < L.ev.length) && (decide ((evn L.ev a).ag = (evn L.ev b).ag) || synB L a b)
def hbB (L : Lg) (a b : Nat) : Bool := hbW (stepB L) L.ev.length a b
section
variable {S : Nat → Nat → Bool} {n : Nat}
theorem hbW_lt (h : ∀ a b, S a b = true → a < b ∧ b < n) : ∀ (c a b : Nat), hbW S c a b = true → a < b ∧ b < n
 | 0, a, b, e => h a b e
 | c + 1, a, b, e => by
  unfold hbW at e
  rw [Bool.or_eq_true, Bool.and_eq_true] at e
  rcases e with e | ⟨e1, e2⟩
  · exact hbW_lt h c a b e
  · have := hbW_lt h c a c e1; have := hbW_lt h c c b e2; omega
theorem hbW_succ {c a b : Nat} (e : hbW S c a b = true) : hbW S (c + 1) a b = true := by unfold hbW; rw [e]; rfl
theorem hbW_mono {c d a b : Nat} (h : c ≤ d) (e : hbW S c a b = true) : hbW S d a b = true := by
 induction h with
 | refl => exact e
 | step _ ih => exact hbW_succ ih
theorem hbW_comp (h : ∀ a b, S a b = true → a < b ∧ b < n) : ∀ (c a x b : Nat), x < c → hbW S c a x = true → hbW S c x b = true → hbW S c a b = true
 | 0, _, _, _, hx, _, _ => absurd hx (Nat.not_lt_zero _)
 | c + 1, a, x, b, hx, e1, e2 => by
  unfold hbW at e1 e2
  rw [Bool.or_eq_true, Bool.and_eq_true] at e1 e2
  by_cases hxc : x = c
  · subst hxc
    have f1 : hbW S x a x = true := by rcases e1 with e | ⟨e, _⟩ <;> exact e
    have f2 : hbW S x x b = true := by rcases e2 with e | ⟨_, e⟩ <;> exact e
    unfold hbW; rw [f1, f2]; simp
  · have f1 : hbW S c a x = true := by
     rcases e1 with e | ⟨_, e⟩
     · exact e
     · have := hbW_lt h c c x e; omega
    rcases e2 with e | ⟨e, e'⟩
    · exact hbW_succ (hbW_comp h c a x b (by omega) f1 e)
    · have f2 := hbW_comp h c a x c (by omega) f1 e
      unfold hbW; rw [f2, e']; simp
theorem hbW_first (h : ∀ a b, S a b = true → a < b ∧ b < n) : ∀ (c a b : Nat), c ≤ n → hbW S c a b = true → S a b = true ∨ ∃ x, S a x = true ∧ hbW S n x b = true
 | 0, a, b, _, e => .inl e
 | c + 1, a, b, hc, e => by
  unfold hbW at e
  rw [Bool.or_eq_true, Bool.and_eq_true] at e
  rcases e with e | ⟨e1, e2⟩
  · exact hbW_first h c a b (by omega) e
  · rcases hbW_first h c a c (by omega) e1 with e | ⟨x, e, e3⟩
    · exact .inr ⟨c, e, hbW_mono (by omega) e2⟩
    · exact .inr ⟨x, e, hbW_comp h n x c b (by omega) e3 (hbW_mono (by omega) e2)⟩
end
theorem stepB_lt {L : Lg} (a b : Nat) (h : stepB L a b = true) : a < b ∧ b < L.ev.length := by
 unfold stepB at h
 simp only [Bool.and_eq_true, decide_eq_true_eq] at h
 exact h.1
theorem hbB_lt {L : Lg} {a b : Nat} (h : hbB L a b = true) : a < b ∧ b < L.ev.length := hbW_lt stepB_lt _ _ _ h
theorem hbB_step {L : Lg} {a b : Nat} (h : stepB L a b = true) : hbB L a b = true := hbW_mono (Nat.zero_le _) (show hbW (stepB L) 0 a b = true from h)
theorem hbB_trans {L : Lg} {a x b : Nat} (h1 : hbB L a x = true) (h2 : hbB L x b = true) : hbB L a b = true := hbW_comp stepB_lt _ a x b (hbB_lt h1).2 h1 h2
theorem hbB_first {L : Lg} {a b : Nat} (h : hbB L a b = true) : stepB L a b = true ∨ ∃ x, stepB L a x = true ∧ hbB L x b = true := hbW_first stepB_lt _ a b (Nat.le_refl _) h
theorem hbB_least {L : Lg} {R : Nat → Nat → Prop} (h1 : ∀ a b, stepB L a b = true → R a b) (h2 : ∀ a x b, R a x → R x b → R a b) : ∀ a b, hbB L a b = true → R a b := by
 have hb : ∀ c a b, hbW (stepB L) c a b = true → R a b := by
  intro c
  induction c with
  | zero => exact h1
  | succ c ih =>
   intro a b e
   unfold hbW at e
   rw [Bool.or_eq_true, Bool.and_eq_true] at e
   rcases e with e | ⟨e1, e2⟩
   · exact ih _ _ e
   · exact h2 _ _ _ (ih _ _ e1) (ih _ _ e2)
 exact fun a b => hb _ a b
def accB (L : Lg) (a b y : Nat) : Bool := synB L a y || (List.range b).any fun c => hbB L a c && (decide (y = c) || hbB L c y)
theorem accB_iff {L : Lg} {a b y : Nat} : accB L a b y = true ↔ synB L a y = true ∨ ∃ c, c < b ∧ hbB L a c = true ∧ (y = c ∨ hbB L c y = true) := by
 unfold accB
 simp only [Bool.or_eq_true, List.any_eq_true, List.mem_range, Bool.and_eq_true, decide_eq_true_eq]
theorem acc_start (L : Lg) (a y : Nat) : accB L a (a + 1) y = synB L a y := by
 rw [Bool.eq_iff_iff, accB_iff]
 constructor
 · rintro (h | ⟨c, h1, h2, _⟩)
   · exact h
   · have := hbB_lt h2; omega
 · exact .inl
theorem acc_test {L : Lg} (hm : mayL L = true) {a b : Nat} (hab : a < b) (hb : b < L.ev.length) : (decide ((evn L.ev a).ag = (evn L.ev b).ag) || accB L a b b) = hbB L a b := by
 rw [Bool.eq_iff_iff, Bool.or_eq_true, accB_iff, decide_eq_true_eq]
 constructor
 · rintro (h | h | ⟨c, h1, h2, h3⟩)
   · exact hbB_step (by unfold stepB; simp [hab, hb, h])
   · exact hbB_step (by unfold stepB; simp [hab, hb, h])
   · rcases h3 with h3 | h3
     · omega
     · exact hbB_trans h2 h3
 · intro h
   rcases hbB_first h with h | ⟨c, h1, h2⟩
   · unfold stepB at h
     simp only [Bool.and_eq_true, Bool.or_eq_true, decide_eq_true_eq] at h
     rcases h.2 with h | h
     · exact .inl h
     · exact .inr (.inl h)
   · exact .inr (.inr ⟨c, (hbB_lt h2).1, hbB_step h1, .inr h2⟩)
theorem acc_yes {L : Lg} {a b : Nat} (h : hbB L a b = true) (y : Nat) : accB L a (b + 1) y = (accB L a b y || decide (y = b) || hbB L b y) := by
 rw [Bool.eq_iff_iff]
 simp only [Bool.or_eq_true, accB_iff, decide_eq_true_eq]
 constructor
 · rintro (h1 | ⟨c, h1, h2, h3⟩)
   · exact .inl (.inl (.inl h1))
   · by_cases e : c = b
     · subst e
       rcases h3 with h3 | h3
       · exact .inl (.inr h3)
       · exact .inr h3
     · exact .inl (.inl (.inr ⟨c, by omega, h2, h3⟩))
 · rintro ((( h1 | ⟨c, h1, h2, h3⟩) | h1) | h1)
   · exact .inl h1
   · exact .inr ⟨c, by omega, h2, h3⟩
   · exact .inr ⟨b, by omega, h, .inl h1⟩
   · exact .inr ⟨b, by omega, h, .inr h1⟩
theorem acc_no {L : Lg} {a b : Nat} (h : hbB L a b = false) (y : Nat) : accB L a (b + 1) y = accB L a b y := by
 rw [Bool.eq_iff_iff]
 simp only [accB_iff]
 constructor
 · rintro (h1 | ⟨c, h1, h2, h3⟩)
   · exact .inl h1
   · by_cases e : c = b
     · subst e; rw [h] at h2; cases h2
     · exact .inr ⟨c, by omega, h2, h3⟩
 · rintro (h1 | ⟨c, h1, h2, h3⟩)
   · exact .inl h1
   · exact .inr ⟨c, by omega, h2, h3⟩
theorem acc_end {L : Lg} (hm : mayL L = true) {a y : Nat} (hy : y < L.ev.length) : accB L a L.ev.length y = hbB L a y := by
 rw [Bool.eq_iff_iff, accB_iff]
 constructor
 · rintro (h | ⟨c, h1, h2, h3⟩)
   · exact hbB_step (by unfold stepB; simp [synB_lt hm hy h, hy, h])
   · rcases h3 with h3 | h3
     · subst h3; exact h2
     · exact hbB_trans h2 h3
 · intro h
   exact .inr ⟨y, hy, h, .inl rfl⟩
def befB (L : Lg) (a b : Nat) (x y : Nat) : Bool := if a < x then hbB L x y else if x = a then accB L a b y else synB L x y
end Go.Ren
namespace Go.Ren
set_option linter.unusedVariables false
def rowP (R : Nat → Nat → Bool) (a b : Nat) : List (Int × Int) := ((List.range b).filter (R a)).map fun y : Nat => ((a : Int), (y : Int))
def listP (R : Nat → Nat → Bool) (n a : Nat) : List (Int × Int) := (List.range a).flatMap fun x => rowP R x n
def listR (n : Nat) (R : Nat → Nat → Bool) : List (Int × Int) := listP R n n
theorem rowP_yes {R : Nat → Nat → Bool} {a b : Nat} (h : R a b = true) : rowP R a (b + 1) = rowP R a b ++ [((a : Int), (b : Int))] := by simp [rowP, List.range_succ, List.filter_append, h]
theorem rowP_no {R : Nat → Nat → Bool} {a b : Nat} (h : R a b = false) : rowP R a (b + 1) = rowP R a b := by simp [rowP, List.range_succ, List.filter_append, h]
theorem listP_succ (R : Nat → Nat → Bool) (n a : Nat) : listP R n (a + 1) = listP R n a ++ rowP R a n := by simp [listP, List.range_succ, List.flatMap_append]
theorem rowP_len (R : Nat → Nat → Bool) (a b : Nat) : (rowP R a b).length ≤ b := by
 unfold rowP
 rw [List.length_map]
 exact Nat.le_trans (List.length_filter_le _ _) (by rw [List.length_range]; exact Nat.le_refl _)
theorem listP_len (R : Nat → Nat → Bool) {n : Nat} (hn : n ≤ 64) (a : Nat) : (listP R n a).length ≤ a * 64 := by
 induction a with
 | zero => simp [listP]
 | succ a ih => rw [listP_succ, List.length_append]; have := rowP_len R a n; omega
theorem mem_listR {n : Nat} {R : Nat → Nat → Bool} {p : Int × Int} : p ∈ listR n R ↔ ∃ a b : Nat, p = ((a : Int), (b : Int)) ∧ a < n ∧ b < n ∧ R a b = true := by
 unfold listR listP rowP
 simp only [List.mem_flatMap, List.mem_range, List.mem_map, List.mem_filter]
 constructor
 · rintro ⟨a, ha, b, ⟨hb, hr⟩, rfl⟩; exact ⟨a, b, rfl, ha, hb, hr⟩
 · rintro ⟨a, b, rfl, ha, hb, hr⟩; exact ⟨a, ha, b, ⟨hb, hr⟩, rfl⟩
end Go.Ren
namespace Go.Proofs.YtbhocahmhmafmaaGreat
open Go.Ren Go.RowKit
set_option linter.unusedVariables false
def PairsOwn (w : World) (v : Value) (l : List (Int × Int)) : Prop := Own w 112 2 v l.length (flat 2 l.length (fun i j => prcell (prn l i) j))
theorem pairs_push {w : World} {v : Value} {l : List (Int × Int)} {p : Int × Int} (ol : Own w 112 2 v (l.length + 1) (flat 2 l.length (fun i j => prcell (prn l i) j) ++ [.int .i64 p.1, .int .i64 p.2])) : PairsOwn w v (l ++ [p]) := by
 unfold PairsOwn
 have e : flat 2 (l.length + 1) (fun i j => prcell (prn (l ++ [p]) i) j) = flat 2 l.length (fun i j => prcell (prn l i) j) ++ [.int .i64 p.1, .int .i64 p.2] := by
  rw [flat_succ _ _ _ (by decide)]
  congr 1
  · exact flat_congr fun i j hi _ => by rw [prn_snoc_lt hi]
  · simp [List.range, List.range.loop, prcell, prn_snoc]
 rw [List.length_append, List.length_singleton, e]
 exact ol
def RListPost (n : Nat) (R : Nat → Nat → Bool) (w : World) (e : Ending) (w' : World) : Prop := ∃ v, e = .returned v ∧ PairsOwn w' v (listR n R) ∧ Ext w w' ∧ ∀ q, v.ownBlock = some q → w.heap.size ≤ q
theorem pairs_more {w w1 w2 : World} {v v' : Value} {l : List (Int × Int)} {a b : Nat} (x : Ext w w1) (hf : ∀ q, v.ownBlock = some q → w.heap.size ≤ q)
 (ol : Own w2 112 2 v' (l.length + 1) (flat 2 l.length (fun i j => prcell (prn l i) j) ++ [.int .i64 (a : Int), .int .i64 (b : Int)])) (M : Mod (fun q => v.ownBlock = some q) w1 w2)
 (fr : ∀ q, v'.ownBlock = some q → v.ownBlock = some q ∨ w1.heap.size ≤ q) : PairsOwn w2 v' (l ++ [((a : Int), (b : Int))]) ∧ Ext w w2 ∧ ∀ q, v'.ownBlock = some q → w.heap.size ≤ q :=
 ⟨pairs_push (p := ((a : Int), (b : Int))) ol, x.trans' M (fun q hq => .inr (hf q hq)), fun q hq => by
  rcases fr q hq with h | h
  · exact hf q h
  · have := x.size; omega⟩
set_option maxRecDepth 100000 in
set_option maxHeartbeats 800000 in
theorem rlist_any (w : World) (p : Value) (n : Nat) (R : Nat → Nat → Bool) (h : RelIs w p n R) :
 Calls Tryz.prog 137 #[p] w (RListPost n R w) := by
 obtain ⟨g, rfl⟩ := h.ptr
 have KR : Hid (∀ w', Ext w w' → RelIs w' (.pointer (some ⟨g, 0, none⟩)) n R) := Lib.hid fun w' x => h.ext x
 have d0 := h.len.1
 have hn := h.len.2
 have hnI : (n : Int) ≤ 64 := by omega
 have HLEN : Hid (∀ a b, a < n → b < n → (listP R n a ++ rowP R a b).length ≤ 5000) := Lib.hid fun a b ha hb => by
  rw [List.length_append]
  have h1 := listP_len R hn a
  have h2 := rowP_len R a b
  omega
 clear h
 go_enter Tryz.func137, Tryz.ntmps137
 go_wp2_with fail
 clear d0
 go_loopw [3, 10] (fun s3 s10 wr => ∃ a : Nat, a ≤ n ∧ s10 = .int .i64 (a : Int) ∧ PairsOwn wr s3 (listP R n a) ∧ Ext w wr ∧ ∀ q, s3.ownBlock = some q → w.heap.size ≤ q) (fun _ s _ => n - (intOf s).toNat)
 case atStart => exact ⟨0, Nat.zero_le _, rfl, Own.nil _ _ _, Mod.refl _ _, fun q hq => by cases hq⟩
 case round =>
  obtain ⟨a, ha, rfl, ho, x, hf⟩ := hrel
  by_cases hlt : a < n
  · have hlt' : (a : Int) < (n : Int) := by omega
    have d0 := (KR.out _ x).len.1
    have H := Lib.hid (And.intro ho (And.intro x hf))
    clear ho x hf
    go_wp2_with fail
    clear d0
    go_loopw [3, 17] (fun s3 s17 wr => ∃ b : Nat, b ≤ n ∧ s17 = .int .i64 (b : Int) ∧ PairsOwn wr s3 (listP R n a ++ rowP R a b) ∧ Ext w wr ∧ ∀ q, s3.ownBlock = some q → w.heap.size ≤ q) (fun _ s _ => n - (intOf s).toNat)
    case atStart => exact ⟨0, Nat.zero_le _, rfl, by simpa [rowP] using H.out.1, H.out.2.1, H.out.2.2⟩
    case round =>
     obtain ⟨b, hb, rfl, ho, x, hf⟩ := hrel
     by_cases hbl : b < n
     · have hbl' : (b : Int) < (n : Int) := by omega
       have hr := KR.out _ x
       have HQ : Hid (hasB n R (a : Int) (b : Int) = R a b) := Lib.hid (by
        unfold hasB
        have : decide (0 ≤ (a : Int) ∧ (a : Int) < (n : Int) ∧ 0 ≤ (b : Int) ∧ (b : Int) < (n : Int)) = true := by rw [decide_eq_true_eq]; omega
        rw [this]; simp)
       have H2 := Lib.hid (And.intro ho (And.intro x hf))
       have HR := Lib.hid hr
       clear ho x hf hr
       go_wp2_with fail
       refine (has_any _ _ n R HR.out a b).mono ?_
       rintro e w1 ⟨rfl, y1⟩
       rw [HQ.out]
       cases hq : R a b with
       | false =>
        have HN := Lib.hid (rowP_no hq)
        clear hq
        go_wp2_with fail
        go_roundw
        case rel => exact ⟨b + 1, by omega, by go_num, by rw [HN.out]; exact H2.out.1.ext y1, H2.out.2.1.trans y1, H2.out.2.2⟩
        case measure => simp [intOf]; omega
       | true =>
        have HN := Lib.hid (rowP_yes hq)
        have hlen := HLEN.out a b hlt hbl
        clear hq
        go_wp2_with (at_builtin; go_loud (refine wpList_app IP rfl (.tmp 24) (.tmp 28) rfl ((H2.out.1.ext y1).ext (Mod.alloc (Mod.refl _ _) _)) (built_sl (n := 1) (g := w1.heap.size) (e := 112) (cs := #[.int .i64 (a : Int), .int .i64 (b : Int)]) (by simp only [heap_alloc_if, if_true]) rfl (by simp only [maxLen]; omega)) (one2i _ _) (by simp [Act.eval]) (by simp [Act.eval]) (by omega) (by simp only [maxLen]; omega) ?_); intro lv' w2 ol2 gr2 fr2 nn2; have HH := Lib.hid (And.intro ol2 (And.intro gr2 fr2)); clear ol2 gr2 fr2 nn2)
        go_roundw
        case rel =>
         obtain ⟨ol2, gr2, fr2⟩ := HH.out
         have M2 : Mod (fun q => u3.ownBlock = some q) w1 w2 := Mod.grown (Mod.alloc (Mod.refl _ _) _) gr2 (fun q h => .inl h)
         obtain ⟨p1, p2, p3⟩ := pairs_more (H2.out.2.1.trans y1) H2.out.2.2 ol2 M2 (fun q hq => by
          rcases fr2 q hq with h | h
          · exact .inl h
          · simp only [World.size_alloc] at h; exact .inr (by omega))
         exact ⟨b + 1, by omega, by go_num, by rw [HN.out, ← List.append_assoc]; exact p1, p2, p3⟩
        case measure => simp [intOf]; omega
     · have hbl' : ¬ (b : Int) < (n : Int) := by omega
       have HB : Hid (b = n) := Lib.hid (by omega)
       have H2 := Lib.hid (And.intro ho (And.intro x hf))
       clear ho x hf
       go_wp2_with fail
       go_roundw
       case rel => exact ⟨a + 1, by omega, by go_num, by have hb := HB.out; have h := H2.out.1; rw [hb] at h; rw [listP_succ]; exact h, H2.out.2.1, H2.out.2.2⟩
       case measure => simp [intOf]; omega
  · have hlt' : ¬ (a : Int) < (n : Int) := by omega
    have HA : Hid (a = n) := Lib.hid (by omega)
    have H := Lib.hid (And.intro ho (And.intro x hf))
    clear ho x hf
    go_wp2_with fail
    go_ret
    exact ⟨_, rfl, by have ha := HA.out; have h := H.out.1; rw [ha] at h; exact h, H.out.2.1, H.out.2.2⟩
end Go.Proofs.YtbhocahmhmafmaaGreat
