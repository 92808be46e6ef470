/-
  The contracts of elem.ToNum at a constant, of renlaw4.first. No condition.
-/
import Derived.Sort.AtCallIn
import Derived.Test.YtnnciakdeoopaaaElemIter
namespace Go.Proofs.Ytnnciakdeoopaaa
open Go.Ren Go.RowKit Go.Shelf
attribute [local go_sem] Oper.semAt_some
set_option linter.unusedVariables false
set_option maxRecDepth 100000 in
theorem tonum_one (w : World) : Calls Try.prog 60 #[.int .i64 1, .int .u64 255] w fun e w' => e = .returned (.agg #[.int .i64 0, .int .i64 (-1)]) ∧ Ext w w' := by
  go_enter Try.func60, Try.ntmps60
  go_wp2_with fail
  rw [show IntKind.i8.wrap 255 = -1 by decide, show wrap64 (-1) = -1 by unfold wrap64; omega]
  obtain ⟨g, hg⟩ : ∃ g, g = w.heap.size := ⟨_, rfl⟩
  obtain ⟨W1, hW1⟩ : ∃ W1, W1 = w.alloc (.cells #[.int .i64 0, .int .i64 (-1)] 104) := ⟨_, rfl⟩
  have x1 : Ext w W1 := by rw [hW1]; exact (Mod.refl _ _).alloc _
  have h0 : W1.heap[g]? = some (.cells #[.int .i64 0, .int .i64 (-1)] 104 (0, 0)) := by rw [hW1, hg]; exact heap_alloc_new _ _
  rw [← hW1, ← hg]
  clear hW1
  refine bodyPost_ret (results_cell_row rfl _ _ g 104 #[.int .i64 0, .int .i64 (-1)] (0, 0) _ rfl h0 Try.underlying104 rfl (by kernel_rfl)) rfl ?_
  exact ⟨rfl, x1⟩
theorem bytes_258 (w : World) : Calls Try.prog 59 #[.int .i64 3, .int .u64 258] w fun e w' => ∃ v, e = .returned v ∧ BytesAt w' v [2, 1] ∧ Ext w w' := by
  refine (ebytes_any w 3 258 (by decide)).mono ?_
  rintro e w1 ⟨v, rfl, ho, x, -⟩
  exact ⟨v, rfl, ho.sl, x⟩
theorem list_eight (w : World) : Calls Try.prog 33 #[] w fun e w' => ∃ v, e = .returned v ∧ IntsAt w' v [1, 2, 3, 4, 5, 6, 7, 8] ∧ Ext w w' := by
  refine (elist_any w).mono ?_
  rintro e w1 ⟨v, rfl, ho, x, -⟩
  exact ⟨v, rfl, ⟨ho.sl, fun y hy => by simp at hy; unfold I64; omega⟩, x⟩
/-- What the loop has added up. -/
def sumW : List Int → Int := List.foldl (fun s v => wrap64 (s + v)) 0
theorem sumW_snoc (pre : List Int) (x : Int) : sumW (pre ++ [x]) = wrap64 (sumW pre + x) := by simp [sumW]
theorem sumW_all : sumW (kindsP 8) = 36 := by simp [sumW, kindsP, List.range, List.range.loop, wrap64]
set_option maxRecDepth 100000 in
theorem num_n (w : World) : (Instr.field 104 (.agg #[.int .i64 0, .int .i64 (-1)]) 1).run Try.prog w = .ok (.int .i64 (-1)) w := by
  simp [Instr.field, run_underlying Try.underlying104]
  rfl
theorem word_seven : wordK 2 [7] = (7, true) := by rfl
theorem change_ten : changeK 2 1 250 10 = (4, true) := by rfl
theorem change_seven : changeK 2 7 0 0 = (0, false) := by rfl
set_option maxHeartbeats 1000000 in
set_option maxRecDepth 100000 in
theorem elemfirst_any (w : World) : Calls Try.prog 32 #[] w fun e w' => e = .returned (.bool true) ∧ Ext w w' := by
  have hfn := fun w fn fi ca => run_eql_func_nil (P := Try.prog) w 100 _ _ _ fn fi ca Try.underlying100
  have hfl := num_n
  refine (callsIn_wide (n := 4)).1 ?_
  refine callsIn_of_wp_marks Try.func32 rfl trivial ?_ rfl
  simp only [Try.ntmps32, List.size_toArray, List.length_nil, Nat.reduceSub, Array.replicate_succ, Array.replicate_zero, List.push_toArray, List.append_toArray, List.nil_append, List.cons_append]
  gi_wp2_with (refine ⟨trivial, ?_⟩; first | (gi_at_call 56; refine (callsIn_wide.2 (eword_any _ 2 _ [7] (built_sl (n := 1) (g := w.heap.size) (e := 5) (cs := #[.int .u8 7]) (by simp only [heap_alloc_if, if_true]) rfl (by simp only [maxLen]; omega)))).mono ?_; rintro e w1 ⟨rfl, rfl⟩; rw [word_seven]; dsimp only) | (gi_at_call_has 57 (Value.int .u64 250); refine (callsIn_wide.2 (change_any _ 2 1 250 10 (by decide) (by decide))).mono ?_; rintro e w1 ⟨rfl, rfl⟩; rw [change_ten]; dsimp only) | (gi_at_call_has 57 (Value.int .i64 7); refine (callsIn_wide.2 (change_any _ 2 7 0 0 (by decide) (by decide))).mono ?_; rintro e w1 ⟨rfl, rfl⟩; rw [change_seven]; dsimp only) | (gi_at_call 58; refine (callsIn_wide.2 (kinds_any _)).mono ?_; rintro e w1 ⟨rfl, rfl⟩))
  obtain ⟨W0, hW0⟩ : ∃ W0, W0 = ((w.alloc (.cells #[.int .u8 7] 5)).alloc (.cells #[.int .i64 0] 3)) := ⟨_, rfl⟩
  have x0 : Ext w W0 := by rw [hW0]; exact (((Mod.refl _ _).alloc _).alloc _)
  have hsz : W0.heap.size = w.heap.size + 1 + 1 := by rw [hW0]; simp
  have bO : Boxed W0 (w.heap.size + 1) 3 (.int .i64 (sumW [])) := by
    rw [hW0]; have h := Boxed.new (w.alloc (.cells #[.int .u8 7] 5)) 3 (.int .i64 0); rw [World.size_alloc] at h; exact h
  rw [← hW0]
  clear hW0
  have HX0 := Lib.hid (And.intro x0 hsz)
  refine wpIn_rangeFunc_ownG (n := 4) rfl (by decide) (gf := 72) (lb := #[]) rfl trivial (enters_of Try.func72 (by kernel_rfl) rfl)
    (kinds1_stops (fun _ _ => True) 3 (by decide) W0) (fun h k => trivial) (fun W l o o' hl _ _ _ => trivial) (Below.refl _ _) (fun _ => rfl)
    (fun pre W => Boxed W (w.heap.size + 1) 3 (.int .i64 (sumW pre)) ∧ KpB (w.heap.size + 1) W0.heap.size W0 W)
    (fun c pre W => False)
    (fun s X Y row ⟨h1, h2⟩ hg hr => ⟨h1.kept hg (fun e => by have := (hr _ e.symm).1; omega), kpb_own W0 s X Y row h2 hg hr⟩)
    (fun c s X Y row h hg hr => h)
    ⟨bO, Mod.refl _ _⟩
    (fun x => { tmps := #[.bool false, .int .u64 7, .bool true, .int .u64 4, .bool true, .int .u64 0, .bool false, .pointer (some ⟨w.heap.size + 1, 0, none⟩), .func (.func 72) #[] #[], .int .i64 x, .tuple #[.int .u64 7, .bool true], .slice (some ⟨w.heap.size, 0, none⟩) 1 1, .tuple #[.int .u64 7, .bool true], .int .u64 7, .bool true, .tuple #[.int .u64 4, .bool true], .tuple #[.int .u64 4, .bool true], .int .u64 4, .bool true, .tuple #[.int .u64 0, .bool false], .tuple #[.int .u64 0, .bool false], .int .u64 0, .bool false, .func (.func 72) #[] #[], .func (.func 72) #[] #[], .bool false, .func (.func 72) #[] #[], .int .i64 x, undef, undef, undef, undef, undef, undef, undef, undef, undef, undef, undef, undef, undef, undef, undef, undef, undef, undef, undef, undef, undef, undef, undef, undef, undef, undef, undef, undef, undef, undef, undef, undef, undef, undef, undef, undef, undef, undef], defers := [] }) ?assign ?body ?done ?stop
  case assign =>
    intro l x W K hK
    gi_wp2
    exact hK
  case body =>
    rintro l pre x W ⟨hv, hk⟩ hlen
    have hc := hv.cell
    have hf := hv.frozen
    have HK := Lib.hid (And.intro hv hk)
    clear hk
    gi_wp2
    have hB2 : KpB (w.heap.size + 1) W0.heap.size W (W.setCell ⟨w.heap.size + 1, 0, none⟩ (.int .i64 (wrap64 (sumW pre + x)))) := Mod.setCell (Mod.refl _ _) (.inl (.inl rfl)) _
    exact ⟨(KeepsOthers.setCell _ _ _).from _, trivial, by rw [sumW_snoc]; exact HK.out.1.set _, Mod.trans HK.out.2 hB2⟩
  case done =>
    rintro D ys W hD rfl ⟨hv, hk⟩ hK
    rw [sumW_all] at hv
    have HKK := Lib.hid (And.intro hk (And.intro hv hK))
    clear hk hv hK
    gi_wp2_with (refine ⟨trivial, ?_⟩; gi_at_call 59; refine (callsIn_wide.2 (bytes_258 _)).mono ?_; rintro e w1 ⟨vb, rfl, hb, x1⟩)
    gi_wp2_with (refine ⟨trivial, ?_⟩; gi_at_call 16; go_loud (refine (callsIn_wide.2 (bytes_any _ _ _ [2, 1] [2, 1] (hb.ext ((Mod.refl _ _).alloc _)) (built_sl (n := 2) (g := w1.heap.size) (e := 5) (cs := #[.int .u8 2, .int .u8 1]) (by simp only [heap_alloc_if, if_true]) rfl (by simp only [maxLen]; omega)))).mono ?_); go_loud (rintro e w2 ⟨rfl, hw2⟩); go_loud (have x2 : Ext W w2 := by (rw [← hw2]; exact Mod.alloc x1 _)); go_loud (rw [show (([2, 1] : List UInt8) == [2, 1]) = true by decide]); clear hw2)
    gi_wp2_with (refine ⟨trivial, ?_⟩; gi_at_call 60; go_loud (refine (callsIn_wide.2 (tonum_one _)).mono ?_); rintro e w3 ⟨rfl, x3⟩; go_loud (have c3 := (Boxed.cell (show Boxed w3 (w.heap.size + 1) 3 (.int .i64 36) from Ext.blk (x2.trans x3) HKK.out.2.1))))
    gi_wp2_with (refine ⟨trivial, ?_⟩; gi_at_call 33; refine (callsIn_wide.2 (list_eight _)).mono ?_; rintro e w4 ⟨vl, rfl, hl, x4⟩)
    gi_wp2_with (refine ⟨trivial, ?_⟩; gi_at_call 17; refine (callsIn_wide.2 (ints_any _ _ _ [1, 2, 3, 4, 5, 6, 7, 8] [1, 2, 3, 4, 5, 6, 7, 8] (hl.ext ((Mod.refl _ _).alloc _)) ⟨built_sl (n := 8) (g := w4.heap.size) (e := 3) (cs := #[.int .i64 1, .int .i64 2, .int .i64 3, .int .i64 4, .int .i64 5, .int .i64 6, .int .i64 7, .int .i64 8]) (by simp only [heap_alloc_if, if_true]) rfl (by simp only [maxLen]; omega), hl.ok⟩)).mono ?_; rintro e w5 ⟨rfl, n5, hw5⟩; go_loud (have x5 : Ext W w5 := by (rw [hw5]; exact Mod.drewN (Mod.alloc (x2.trans (x3.trans x4)) _) _)); rw [show (([1, 2, 3, 4, 5, 6, 7, 8] : List Int) == [1, 2, 3, 4, 5, 6, 7, 8]) = true by decide]; clear hw5)
    obtain ⟨hk, hv, hK⟩ := HKK.out
    refine ⟨by simp, .inl ⟨_, _, rfl, run_takeDeferred (x5.blk hK), ?_⟩⟩
    have hx : Ext w w5 := (HX0.out.1.trans' hk (fun q hq => .inr (by rcases hq with h | h <;> omega))).trans x5
    refine ⟨_, results_tmp rfl _ _ _, rfl, hx.trans' (G := fun q => q = D) (Mod.grown (Mod.refl _ _) (grownBy_putObj' w5 D _) (fun k e => by cases e; exact .inl rfl)) (fun q hq => .inr (by omega))⟩
  case stop =>
    rintro D c pre W hD hpre h hK
    exact h.elim
end Go.Proofs.Ytnnciakdeoopaaa
