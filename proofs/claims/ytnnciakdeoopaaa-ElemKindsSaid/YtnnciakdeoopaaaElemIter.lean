/-
  The contracts of elem's List, Kinds, of the function that it hands back, of ToNum at a constant, of renlaw4's taken and first. No condition.
-/
import Derived.RangeFuncNested
import Derived.RangeFuncBound
import Derived.RangeFuncCalls
import Derived.RangeFuncLeaves
import Derived.RangeFuncBox
import Derived.Shelf.Abstract
import Derived.OwnWalkIn
import Derived.TacticsInMore
import Derived.LoopNIn
import Derived.LoopIn
import Derived.Maps.AppendAt
import Derived.Test.YtnnciakdeoopaaaBaseBy
import Derived.Test.YtnnciakdeoopaaaBaseIn
import Derived.Test.YtnnciakdeoopaaaElemBytes
namespace Go.Ren
set_option linter.unusedVariables false
theorem Ext.grown {w w' : World} (x : Ext w w') : w.grownBy w' none := ⟨x.os, x.tape, x.output, x.size, fun k hk _ => x.block k hk (fun h => h)⟩
theorem row_weak {w : World} {b : Nat} {e : TypeId} {sz : Nat} {v : Value} {n : Nat} {xs : List Value} (h : w.ownsRow b e sz v n xs) : Go.Ren.Own w e sz v n xs :=
  ⟨h.1, h.2.imp (fun h => h) fun ⟨g, cap, cur, h1, _, h3⟩ => ⟨g, cap, cur, h1, Nat.zero_le _, h3⟩⟩
theorem run_equalIn_func_nil {P : Program} (w : World) (d : Nat) (t : TypeId) (ps rs : Array TypeId) (vd : Bool) (fn : Fn) (fi ca : Array Value) (h : P.underlying t = some (.func ps rs vd)) : (Op.equalIn (d + 1) t (.func fn fi ca) .nilFunc).run P w = .ok false w := by
  simp [Op.equalIn, run_underlying h]
theorem run_eql_func_nil {P : Program} (w : World) (t : TypeId) (ps rs : Array TypeId) (vd : Bool) (fn : Fn) (fi ca : Array Value) (h : P.underlying t = some (.func ps rs vd)) : (binOp .eql t (.func fn fi ca) .nilFunc).run P w = .ok (.bool false) w := by
  simp only [binOp]
  simp [Op.equal, Op.maxDepth, run_equalIn_func_nil w 9999 t ps rs vd fn fi ca h]
theorem row_base {w w1 : World} {b : Nat} {e : TypeId} {sz : Nat} {v : Value} {n : Nat} {xs : List Value} (h : w.ownsRow 0 e sz v n xs) (h2 : w1.ownsRow b e sz v n xs) : w.ownsRow b e sz v n xs := by
  refine ⟨h.1, ?_⟩
  rcases h.2 with h3 | ⟨g, cap, cur, rfl, _, h4⟩
  · exact .inl h3
  · rcases h2.2 with ⟨h5, _⟩ | ⟨g', cap', cur', h5, hb, _⟩
    · cases h5
    · cases h5; exact .inr ⟨g, cap, cur, rfl, hb, h4⟩
theorem cell_one_new (w : World) (x : Value) (t : TypeId) : ∀ j u, [x][j]? = some u → (w.alloc (.cells #[x] t)).cell? ((⟨w.heap.size, 0, none⟩ : Addr).add j) = some u := by
  intro j u hj
  have hb := heap_alloc_new w (.cells #[x] t)
  obtain ⟨W, hW⟩ : ∃ W, W = w.alloc (.cells #[x] t) := ⟨_, rfl⟩
  rw [← hW] at hb ⊢
  match j, hj with
  | 0, hj => simp at hj; subst hj; simp [Addr.add, World.cell?, hb]
/-- What a round that goes on keeps: all but the box that it writes, and what is new. -/
def KpB (bo n2 : Nat) (w w' : World) : Prop := Go.Ren.Mod (fun q => q = bo ∨ n2 ≤ q) w w'
theorem KpB.putObj {bo n2 : Nat} {W : World} {l : Nat} (o' : Obj) (h : n2 ≤ l) : KpB bo n2 W (W.putObj l o') :=
  Go.Ren.Mod.grown (Go.Ren.Mod.refl _ _) (grownBy_putObj' W l o') (fun k e => by cases e; exact .inl (.inr h))
theorem kpb_own {β : Type} {bo n2 : Nat} (wS : World) : OwnFrom n2 (fun (_ : β) W => KpB bo n2 wS W) :=
  fun s A B row h hg hr => Go.Ren.Mod.grown h hg (fun k e => .inl (.inr (hr k e).1))
end Go.Ren
namespace Go.Proofs.Ytnnciakdeoopaaa
open Go.Ren Go.RowKit Go.Shelf
attribute [local go_sem] Oper.semAt_some
set_option linter.unusedVariables false
theorem kinds_any (w : World) : Calls Try.prog 58 #[] w fun e w' => e = .returned (.func (.func 72) #[] #[]) ∧ w' = w := by
  go_enter Try.func58, Try.ntmps58
  go_wp2
  go_ret
  exact ⟨rfl, rfl⟩
theorem kindsP_pre {a b : Nat} (h : a ≤ b) : kindsP a <+: kindsP b := by
  induction b with
  | zero => obtain rfl : a = 0 := by omega
            exact List.prefix_refl _
  | succ b ih =>
    by_cases e : a = b + 1
    · subst e; exact List.prefix_refl _
    · exact (ih (by omega)).trans (by rw [kindsP_succ]; exact List.prefix_append _ _)
set_option maxRecDepth 100000 in
set_option maxHeartbeats 2000000 in
theorem kinds1_stops (Kp : World → World → Prop) (n : Nat) (hn : 1 ≤ n) (wS : World) :
    SeqStopsK Fence.wide n Try.prog 72 #[] (fun x : Int => #[.int .i64 x]) Kp (fun ys => ys = kindsP 8) (fun pre => pre <+: kindsP 8) 8 wS := fun l J Jx W hW hJ _ hY h0 => by
  have HJ := Lib.hid hJ
  have HY := Lib.hid hY
  have H0 := Lib.hid h0
  have hn1 : 1 ≤ n - 1 + 1 := by omega
  clear hJ hY h0 hW
  refine callsIn_of_wp Try.func72 rfl trivial ?_ rfl
  simp only [Try.ntmps72, List.append_toArray, List.size_toArray, List.length_cons, List.length_nil, Nat.reduceAdd, Nat.reduceSub, Array.replicate_succ, Array.replicate_zero, List.push_toArray, List.append_toArray, List.nil_append, List.cons_append]
  gi_wp2
  gi_loopw [2] (fun s wr => ∃ a : Nat, a ≤ 8 ∧ s = .int .i64 ((a + 1 : Nat) : Int) ∧ J (kindsP a) wr) (fun s _ => 9 - (intOf s).toNat)
  case atStart => exact ⟨0, Nat.zero_le _, rfl, H0.out⟩
  case round =>
    obtain ⟨a, ha, hs, hj⟩ := hrel
    obtain ⟨b, hb⟩ : ∃ b, b = a + 1 := ⟨_, rfl⟩
    rw [← hb] at hs
    subst hs
    have HB := Lib.hid hb
    have H1 := Lib.hid hj
    by_cases hlt : a < 8
    · have hlt' : (b : Int) ≤ 8 := by omega
      obtain ⟨fn, tmps, assign, body, hy, hR⟩ := HY.out (kindsP a) (b : Int) wr hj (by rw [kindsP_len]; exact hlt)
      clear hb hj
      gi_wp2
      refine hR.mono ?_
      rintro e W3 (⟨rfl, hJ3, hk3⟩ | ⟨rfl, hJx3⟩)
      · have H3 := Lib.hid hJ3
        clear hJ3 hk3
        gi_wp2
        go_roundw
        case rel =>
          have hb := HB.out
          subst hb
          exact ⟨a + 1, by omega, by go_num, by rw [kindsP_succ]; exact H3.out⟩
        case measure => have := HB.out; simp [intOf]; omega
      · have H3 := Lib.hid hJx3
        clear hJx3
        gi_wp2
        refine bodyPost_ret (results_none rfl _ _ _) rfl ?_
        have hb := HB.out
        subst hb
        exact ⟨⟨_, rfl⟩, .inr ⟨_, by have h := kindsP_pre (show a + 1 ≤ 8 by omega); rw [kindsP_succ] at h; exact h, H3.out⟩⟩
    · have hlt' : ¬ (b : Int) ≤ 8 := by omega
      have HA : Hid (a = 8) := Lib.hid (by omega)
      clear hb hj
      gi_wp2
      go_end0
      have h := H1.out
      have ha := HA.out
      rw [ha] at h
      exact ⟨⟨_, rfl⟩, .inl h⟩
set_option maxRecDepth 100000 in
set_option maxHeartbeats 4000000 in
theorem taken_any (w : World) (m : Int) (hm : I64 m) :
    Calls Try.prog 35 #[.int .i64 m] w (Copied 3 (((kindsP 8).take m.toNat).map iv) w) := by
  by_cases hm0 : m ≤ 0
  · have HZ : Hid ((kindsP 8).take m.toNat = []) := Lib.hid (by rw [show m.toNat = 0 by omega]; rfl)
    clear hm
    go_enter Try.func35, Try.ntmps35
    go_wp2_with fail
    refine (kinds_any _).mono ?_
    rintro e w1 ⟨rfl, rfl⟩
    go_wp2_with fail
    go_ret
    rw [HZ.out]
    exact ⟨_, rfl, World.ownsRow_nil _ _ _ _, (((Mod.refl _ _).alloc _).alloc _), fun k hk => by cases hk⟩
  · have hm1 : ¬ m ≤ 0 := hm0
    obtain ⟨M, rfl⟩ := Int.eq_ofNat_of_zero_le (show 0 ≤ m by omega)
    have hMpos : 0 < M := by omega
    have hMle : (M : Int) ≤ 9223372036854775807 := by unfold I64 at hm; omega
    obtain ⟨i0, hi, hz0, hz1, hz2⟩ := info_parts II.info
    clear hm hm0
    have hfn := fun w fn fi ca => run_eql_func_nil (P := Try.prog) w 100 _ _ _ fn fi ca Try.underlying100
    refine (callsIn_wide (n := 4)).1 ?_
    refine callsIn_of_wp_marks Try.func35 rfl trivial ?_ rfl
    simp only [Try.ntmps35, List.size_toArray, List.length_cons, List.length_nil, Nat.reduceAdd, Nat.reduceSub, Array.replicate_succ, Array.replicate_zero, List.push_toArray, List.append_toArray, List.nil_append, List.cons_append]
    gi_wp2_with (refine ⟨trivial, ?_⟩; gi_at_call 58; refine (callsIn_wide.2 (kinds_any _)).mono ?_; rintro e w1 ⟨rfl, rfl⟩)
    obtain ⟨W0, hW0⟩ : ∃ W0, W0 = ((w.alloc (.cells #[.int .i64 (M : Int)] 3)).alloc (.cells #[.slice none 0 0] 26)) := ⟨_, rfl⟩
    have x0 : Ext w W0 := by rw [hW0]; exact (((Mod.refl _ _).alloc _).alloc _)
    have hsz : W0.heap.size = w.heap.size + 1 + 1 := by rw [hW0]; simp
    have bn : Boxed W0 w.heap.size 3 (.int .i64 (M : Int)) := by rw [hW0]; exact (Boxed.new w _ _).alloc _
    have bO : Boxed W0 (w.heap.size + 1) 26 (.slice none 0 0) := by
      rw [hW0]; have h := Boxed.new (w.alloc (.cells #[.int .i64 (M : Int)] 3)) 26 (.slice none 0 0); rw [World.size_alloc] at h; exact h
    rw [← hW0]
    clear hW0
    have HX0 := Lib.hid (And.intro x0 (And.intro bn hsz))
    refine wpIn_rangeFunc_ownG (n := 4) rfl (by decide) (gf := 72) (lb := #[]) rfl trivial (enters_of Try.func72 (by kernel_rfl) rfl)
      (kinds1_stops (fun _ _ => True) 3 (by decide) W0) (fun h k => trivial) (fun W l o o' hl _ _ _ => trivial) (Below.refl _ _) (fun _ => rfl)
      (fun pre W => (∃ v, Boxed W (w.heap.size + 1) 26 v ∧ W.ownsRow W0.heap.size 3 1 v pre.length (pre.map iv) ∧ True) ∧ pre.length < M ∧ KpB (w.heap.size + 1) W0.heap.size W0 W)
      (fun c pre W => c = .exit 0 ∧ (∃ v, Boxed W (w.heap.size + 1) 26 v ∧ W.ownsRow W0.heap.size 3 1 v pre.length (pre.map iv) ∧ True) ∧ pre.length = M ∧ KpB (w.heap.size + 1) W0.heap.size W0 W)
      (fun s X Y row ⟨h1, h2, h3⟩ hg hr => ⟨(holdsRow_own W0.heap.size (w.heap.size + 1) 26 3 1 (fun pre : List Int => pre.length) (fun pre => pre.map iv) (fun _ _ => True)) s X Y row h1 hg (fun r e => (hr r e).2), h2, kpb_own W0 s X Y row h3 hg hr⟩)
      (fun c s X Y row ⟨h0, h1, h2, h3⟩ hg hr => ⟨h0, (holdsRow_own W0.heap.size (w.heap.size + 1) 26 3 1 (fun pre : List Int => pre.length) (fun pre => pre.map iv) (fun _ _ => True)) s X Y row h1 hg (fun r e => (hr r e).2), h2, kpb_own W0 s X Y row h3 hg hr⟩)
      ⟨⟨_, bO, World.ownsRow_nil _ _ _ _, trivial⟩, hMpos, Mod.refl _ _⟩
      (fun x => { tmps := #[.int .i64 (M : Int), .pointer (some ⟨w.heap.size, 0, none⟩), .slice none 0 0, .pointer (some ⟨w.heap.size + 1, 0, none⟩), .func (.func 72) #[] #[], .int .i64 x, .func (.func 72) #[] #[], .int .i64 (M : Int), .bool false, .bool false, .func (.func 72) #[] #[], .bool false, .bool false, .func (.func 72) #[] #[], .int .i64 x, undef, undef, undef, undef, undef, undef, undef, undef, undef], defers := [] }) ?assign ?body ?done ?stop
    case assign =>
      intro l x W K hK
      gi_wp2
      exact hK
    case body =>
      rintro l pre x W ⟨⟨v, hv, hrow, -⟩, hlt, hk⟩ hlen
      have hsz2 := hk.size
      have hc := hv.cell
      have hcn : W.cell? ⟨w.heap.size, 0, none⟩ = some (.int .i64 (M : Int)) := by
        have h2 := Mod.blk hk HX0.out.2.1 (fun h => by rcases h with h | h <;> omega)
        simp [World.cell?, h2]
      have hob : ∀ k, v.ownBlock = some k → W0.heap.size ≤ k := by
        rcases hrow.2 with ⟨rfl, _⟩ | ⟨g9, cap9, cur9, rfl, hz9, _⟩
        · intro k e; cases e
        · intro k e; simp [Value.ownBlock] at e; omega
      have HK := Lib.hid hk
      have hpl : (pre.length : Int) < (M : Int) := by omega
      clear hk
      gi_wp2_with (gi_at_builtin; go_loud (refine wpListIn_append_own _ rfl _ _ 26 rfl W0.heap.size 3 i0 (.int .i64 0) 1 8 Try.underlying26 hi hz0 hz1 hz2 rfl (by decide) _ _ _ rfl (hrow.alloc _) ⟨W.heap.size, 0, none⟩ 1 1 [.int .i64 x] rfl rfl (cell_one_new _ _ _) (one1i _) (by simp only [maxLen]; omega) (by omega) (by simp; omega) ?_; intro v' w1 hown' hgrow _; obtain ⟨g', cap', rfl⟩ := ownsRow_succ hown'; have hB9 := Mod.grown (Mod.alloc (Mod.refl (fun q => q = w.heap.size + 1 ∨ W0.heap.size ≤ q) W) _) hgrow (fun k e => .inl (.inr (hob k e))); obtain ⟨hv1, hv2, hr2, hk2, hb2⟩ := hv.appended (n₀ := 0) (by decide) (row_weak hrow) (Nat.zero_le _) (Nat.zero_le _) (row_weak hown') hgrow; have hc1 := hv1.cell; have hf1 := hv1.frozen; have hcn1 := Mod.cell hB9 hcn (fun h => by rcases h with h | h <;> (dsimp only at h; omega)); have HB9 := Lib.hid hB9; clear hB9))
      · have hx : (M : Int) ≤ (pre.length : Int) + 1 := by assumption
        have hB2 : KpB (w.heap.size + 1) W0.heap.size W (w1.setCell ⟨w.heap.size + 1, 0, none⟩ (.slice (some ⟨g', 0, none⟩) (pre.length + 1) cap')) := Mod.setCell HB9.out (.inl (.inl rfl)) _
        have hrw := row_base hr2 hown'
        exact ⟨hk2.from _, rfl, ⟨_, hv2, by rw [List.length_append, List.length_singleton, List.map_append]; exact hrw, trivial⟩, by rw [List.length_append, List.length_singleton]; omega, Mod.trans HK.out hB2⟩
      · have hx : (pre.length : Int) + 1 < (M : Int) := by assumption
        have hB2 : KpB (w.heap.size + 1) W0.heap.size W (w1.setCell ⟨w.heap.size + 1, 0, none⟩ (.slice (some ⟨g', 0, none⟩) (pre.length + 1) cap')) := Mod.setCell HB9.out (.inl (.inl rfl)) _
        have hrw := row_base hr2 hown'
        exact ⟨hk2.from _, trivial, ⟨_, hv2, by rw [List.length_append, List.length_singleton, List.map_append]; exact hrw, trivial⟩, by rw [List.length_append, List.length_singleton]; omega, Mod.trans HK.out hB2⟩
    case done =>
      rintro D ys W hD rfl ⟨⟨v, hv, hrow, -⟩, hlt, hk⟩ hK
      have hc := hv.cell
      have HKK := Lib.hid (And.intro hlt (And.intro hk hrow))
      clear hlt hk hrow
      gi_wp2
      obtain ⟨hlt, hk, hrow⟩ := HKK.out
      refine ⟨by simp, .inl ⟨_, _, rfl, run_takeDeferred hK, ?_⟩⟩
      have hx : Ext w W := HX0.out.1.trans' hk (fun q hq => .inr (by rcases hq with h | h <;> omega))
      refine ⟨_, results_tmp rfl _ _ _, v, rfl, ?_, hx.trans' (G := fun q => q = D) (Mod.grown (Mod.refl _ _) (grownBy_putObj' W D _) (fun k e => by cases e; exact .inl rfl)) (fun q hq => .inr (by omega)), fun k hk2 => by have h := (World.ownsRow.lt hrow k hk2).1; omega⟩
      have e : (kindsP 8).take (M : Int).toNat = kindsP 8 := List.take_of_length_le (by omega)
      rw [e, List.length_map]
      exact row_weak (ownsRow_putObj hrow _ hK rfl)
    case stop =>
      rintro D c pre W hD hpre ⟨rfl, ⟨v, hv, hrow, -⟩, hlt, hk⟩ hK
      have hc := hv.cell
      have HKK := Lib.hid (And.intro hlt (And.intro hk (And.intro hrow hpre)))
      clear hlt hk hrow hpre
      gi_wp2
      obtain ⟨hlt, hk, hrow, hpre⟩ := HKK.out
      refine ⟨by simp, .inl ⟨_, _, rfl, run_takeDeferred hK, ?_⟩⟩
      have hx : Ext w W := HX0.out.1.trans' hk (fun q hq => .inr (by rcases hq with h | h <;> omega))
      refine ⟨_, results_tmp rfl _ _ _, v, rfl, ?_, hx.trans' (G := fun q => q = D) (Mod.grown (Mod.refl _ _) (grownBy_putObj' W D _) (fun k e => by cases e; exact .inl rfl)) (fun q hq => .inr (by omega)), fun k hk2 => by have h := (World.ownsRow.lt hrow k hk2).1; omega⟩
      have e : (kindsP 8).take (M : Int).toNat = pre := by
        have h := List.prefix_iff_eq_take.1 hpre
        rw [hlt] at h
        rw [Int.toNat_natCast]; exact h.symm
      rw [e, List.length_map]
      exact row_weak (ownsRow_putObj hrow _ hK rfl)
end Go.Proofs.Ytnnciakdeoopaaa
