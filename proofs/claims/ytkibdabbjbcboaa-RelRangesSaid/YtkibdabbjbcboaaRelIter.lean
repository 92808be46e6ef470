/-
  The contracts of rel.Rel's Pairs, of the function that it hands back, of renlaw15.ranged. No condition.
-/
import Derived.RangeFuncNested
import Derived.RangeFuncBound
import Derived.RangeFuncCalls
import Derived.RangeFuncLeaves
import Derived.RangeFuncBox
import Derived.Shelf.Abstract
import Derived.OwnWalkIn
import Derived.TacticsInMore
import Derived.LoopNIn
import Derived.LoopIn
import Derived.Maps.AppendAt
import Derived.Test.YtkibdabbjbcboaaRvList
namespace Go.Ren
set_option linter.unusedVariables false
theorem Ext.grown {w w' : World} (x : Ext w w') : w.grownBy w' none := ⟨x.os, x.tape, x.output, x.size, fun k hk _ => x.block k hk (fun h => h)⟩
theorem row_weak {w : World} {b : Nat} {e : TypeId} {sz : Nat} {v : Value} {n : Nat} {xs : List Value} (h : w.ownsRow b e sz v n xs) : Go.Ren.Own w e sz v n xs :=
  ⟨h.1, h.2.imp (fun h => h) fun ⟨g, cap, cur, h1, _, h3⟩ => ⟨g, cap, cur, h1, Nat.zero_le _, h3⟩⟩
theorem run_equalIn_func_nil {P : Program} (w : World) (d : Nat) (t : TypeId) (ps rs : Array TypeId) (vd : Bool) (fn : Fn) (fi ca : Array Value) (h : P.underlying t = some (.func ps rs vd)) : (Op.equalIn (d + 1) t (.func fn fi ca) .nilFunc).run P w = .ok false w := by
  simp [Op.equalIn, run_underlying h]
theorem run_eql_func_nil {P : Program} (w : World) (t : TypeId) (ps rs : Array TypeId) (vd : Bool) (fn : Fn) (fi ca : Array Value) (h : P.underlying t = some (.func ps rs vd)) : (binOp .eql t (.func fn fi ca) .nilFunc).run P w = .ok (.bool false) w := by
  simp only [binOp]
  simp [Op.equal, Op.maxDepth, run_equalIn_func_nil w 9999 t ps rs vd fn fi ca h]
theorem row_base {w w1 : World} {b : Nat} {e : TypeId} {sz : Nat} {v : Value} {n : Nat} {xs : List Value} (h : w.ownsRow 0 e sz v n xs) (h2 : w1.ownsRow b e sz v n xs) : w.ownsRow b e sz v n xs := by
  refine ⟨h.1, ?_⟩
  rcases h.2 with h3 | ⟨g, cap, cur, rfl, _, h4⟩
  · exact .inl h3
  · rcases h2.2 with ⟨h5, _⟩ | ⟨g', cap', cur', h5, hb, _⟩
    · cases h5
    · cases h5; exact .inr ⟨g, cap, cur, rfl, hb, h4⟩
theorem cell_two_new (w : World) (x y : Value) (t : TypeId) : ∀ j u, [x, y][j]? = some u → (w.alloc (.cells #[x, y] t)).cell? ((⟨w.heap.size, 0, none⟩ : Addr).add j) = some u := by
  intro j u hj
  have hb := heap_alloc_new w (.cells #[x, y] t)
  obtain ⟨W, hW⟩ : ∃ W, W = w.alloc (.cells #[x, y] t) := ⟨_, rfl⟩
  rw [← hW] at hb ⊢
  match j, hj with
  | 0, hj => simp at hj; subst hj; simp [Addr.add, World.cell?, hb]
  | 1, hj => simp at hj; subst hj; simp [Addr.add, World.cell?, hb]
/-- What a round that goes on keeps: all but the box that it writes, and what is new. -/
def KpB (bo n2 : Nat) (w w' : World) : Prop := Go.Ren.Mod (fun q => q = bo ∨ n2 ≤ q) w w'
theorem KpB.putObj {bo n2 : Nat} {W : World} {l : Nat} (o' : Obj) (h : n2 ≤ l) : KpB bo n2 W (W.putObj l o') :=
  Go.Ren.Mod.grown (Go.Ren.Mod.refl _ _) (grownBy_putObj' W l o') (fun k e => by cases e; exact .inl (.inr h))
theorem kpb_own {β : Type} {bo n2 : Nat} (wS : World) : OwnFrom n2 (fun (_ : β) W => KpB bo n2 wS W) :=
  fun s A B row h hg hr => Go.Ren.Mod.grown h hg (fun k e => .inl (.inr (hr k e).1))
end Go.Ren
namespace Go.Proofs.Ytkibdabbjbcboaa
open Go.Ren Go.RowKit Go.Shelf
attribute [local go_sem] Oper.semAt_some
set_option linter.unusedVariables false
def enc2 (x : Int × Int) : Array Value := #[.int .i64 x.1, .int .i64 x.2]
theorem rowP_lt {R : Nat → Nat → Bool} {N a b : Nat} (ha : a < N) (hb : b < N) (h : R a b = true) : (listP R N a ++ rowP R a b).length < (listR N R).length ∧ listP R N a ++ rowP R a (b + 1) <+: listR N R := by
  have h1 : ∀ k m, k ≤ m → rowP R a k <+: rowP R a m := fun k m hkm => by
    induction m with
    | zero => obtain rfl : k = 0 := by omega
              exact List.prefix_refl _
    | succ m ih =>
      by_cases e : k = m + 1
      · subst e; exact List.prefix_refl _
      · refine (ih (by omega)).trans ?_
        cases hr : R a m with
        | true => rw [rowP_yes hr]; exact List.prefix_append _ _
        | false => rw [rowP_no hr]; exact List.prefix_refl _
  have h2 : ∀ k m, k ≤ m → listP R N k <+: listP R N m := fun k m hkm => by
    induction m with
    | zero => obtain rfl : k = 0 := by omega
              exact List.prefix_refl _
    | succ m ih =>
      by_cases e : k = m + 1
      · subst e; exact List.prefix_refl _
      · exact (ih (by omega)).trans (by rw [listP_succ]; exact List.prefix_append _ _)
  have h3 : listP R N a ++ rowP R a (b + 1) <+: listR N R := by
    refine List.IsPrefix.trans ?_ (h2 (a + 1) N (by omega))
    rw [listP_succ]
    exact (List.prefix_append_right_inj _).2 (h1 (b + 1) N (by omega))
  refine ⟨?_, h3⟩
  have h4 := h3.length_le
  rw [rowP_yes h] at h4
  simp at h4 ⊢
  omega
set_option maxRecDepth 100000 in
set_option maxHeartbeats 2000000 in
theorem pairs1_in (n : Nat) (hn : 1 ≤ n) (l : Nat) (bo n2 B : Nat) (wq wS : World) (p : Value) (N : Nat) (R : Nat → Nat → Bool) (hp : RelIs wq p N R) (hx : Ext wq wS) (hbo : wq.heap.size ≤ bo) (hn2 : wS.heap.size = n2) (hB : wS.heap[B]? = some (.cells #[p] 28 (0, 0))) (hne : B ≠ bo)
    (J Jx : List (Int × Int) → World → Prop) (W : World) (hW : Below wS.heap.size wS W) (hJ : AbidesFrom W.heap.size J)
    (hY : ∀ pre x W1, J pre W1 → pre.length < (listR N R).length → YieldAt Fence.wide (n - 1) Try.prog l (enc2 x) W1 fun e W' =>
      (e = .returned (.bool true) ∧ J (pre ++ [x]) W' ∧ KpB bo n2 W1 W') ∨ (e = .returned (.bool false) ∧ Jx (pre ++ [x]) W')) (h0 : J [] W) :
    CallsIn Fence.wide n Try.prog 66 #[.func (.yield l) #[] #[], .pointer (some ⟨B, 0, none⟩)] W fun e W' => (∃ v, e = .returned v) ∧
      ((∃ ys, ys = listR N R ∧ J ys W') ∨ (∃ pre, pre <+: listR N R ∧ Jx pre W')) := by
  obtain ⟨g, rfl⟩ := hp.ptr
  have KW : Hid (∀ wr, KpB bo n2 wS wr → RelIs wr (.pointer (some ⟨g, 0, none⟩)) N R ∧ wr.cell? ⟨B, 0, none⟩ = some (.pointer (some ⟨g, 0, none⟩))) := Lib.hid fun wr m => by
    have hsz := hx.size
    have h1 : Ext wq wr := hx.trans' m (fun i hi => .inr (by rcases hi with h | h <;> omega))
    have hBl := lt_of_block hB
    have h2 := Mod.blk m hB (fun h => by rcases h with h | h; exact hne h; omega)
    exact ⟨hp.ext h1, by simp [World.cell?, h2]⟩
  have HJ := Lib.hid hJ
  have HY := Lib.hid hY
  have H0 : Hid (J [] W ∧ KpB bo n2 wS W) := Lib.hid ⟨h0, Ext.mod (Below.ext hW) _⟩
  have hN := (hp.len).2
  have hNI : (N : Int) ≤ 64 := by omega
  have d0 := ((KW.out _ H0.out.2).1.len).1
  have dB := (KW.out _ H0.out.2).2
  have hn1 : 1 ≤ n - 1 + 1 := by omega
  clear hp hx hB hJ hY h0 hW
  refine callsIn_of_wp Try.func66 rfl trivial ?_ rfl
  simp only [Try.ntmps66, List.size_toArray, List.length_cons, List.length_nil, Nat.reduceAdd, Nat.reduceSub, Array.replicate_succ, Array.replicate_zero, List.push_toArray, List.append_toArray, List.nil_append, List.cons_append]
  gi_wp2
  clear d0 dB
  gi_loopw [9] (fun s wr => ∃ a : Nat, a ≤ N ∧ s = .int .i64 (a : Int) ∧ J (listP R N a) wr ∧ KpB bo n2 wS wr) (fun s _ => N - (intOf s).toNat)
  case atStart => exact ⟨0, Nat.zero_le _, rfl, H0.out⟩
  case round =>
    obtain ⟨a, ha, rfl, hj, hk⟩ := hrel
    by_cases hlt : a < N
    · have hlt' : (a : Int) < (N : Int) := by omega
      obtain ⟨hr, dB⟩ := KW.out _ hk
      have d0 := hr.len.1
      have H1 := Lib.hid (And.intro hj hk)
      clear hj hk hr
      gi_wp2
      clear d0 dB
      gi_loopw [16] (fun s wr => ∃ b : Nat, b ≤ N ∧ s = .int .i64 (b : Int) ∧ J (listP R N a ++ rowP R a b) wr ∧ KpB bo n2 wS wr) (fun s _ => N - (intOf s).toNat)
      case atStart => exact ⟨0, Nat.zero_le _, rfl, by simpa [rowP] using H1.out⟩
      case round =>
        obtain ⟨b, hb, rfl, hj, hk⟩ := hrel
        by_cases hbl : b < N
        · have hbl' : (b : Int) < (N : Int) := by omega
          obtain ⟨hr, dB⟩ := KW.out _ hk
          have HR := Lib.hid hr
          have H2 := Lib.hid (And.intro hj hk)
          have HQ : Hid (hasB N R (a : Int) (b : Int) = R a b) := Lib.hid (hasB_nat hlt hbl)
          clear hj hk hr
          cases hq : R a b with
          | false =>
            have HN := Lib.hid (rowP_no hq)
            have HQQ : Hid (hasB N R (a : Int) (b : Int) = false) := Lib.hid (by rw [HQ.out, hq])
            clear hq
            gi_wp2_with (refine ⟨trivial, ?_⟩; gi_at_call 29; refine (callsIn_wide.2 (has_any _ _ N R HR.out a b)).mono ?_; rintro e w1 ⟨rfl, y1⟩; rw [HQQ.out])
            refine ⟨fun _ h => (by cases h), ?_⟩
            gi_wp2
            go_roundw
            case rel => exact ⟨b + 1, by omega, by go_num, by rw [HN.out]; exact HJ.out _ _ _ none H2.out.1 (Ext.grown y1) (fun r e => by cases e), Mod.trans H2.out.2 (Ext.mod y1 _)⟩
            case measure => simp [intOf]; omega
          | true =>
            have HN := Lib.hid (rowP_yes hq)
            have HLT := Lib.hid (rowP_lt hlt hbl hq)
            have HQQ : Hid (hasB N R (a : Int) (b : Int) = true) := Lib.hid (by rw [HQ.out, hq])
            clear hq
            gi_wp2_with (refine ⟨trivial, ?_⟩; gi_at_call 29; refine (callsIn_wide.2 (has_any _ _ N R HR.out a b)).mono ?_; rintro e w1 ⟨rfl, y1⟩; rw [HQQ.out]; obtain ⟨fn, tmps, assign, body, hy, hR⟩ := HY.out _ ((a : Int), (b : Int)) w1 (HJ.out _ _ _ none H2.out.1 (Ext.grown y1) (fun r e => by cases e)) HLT.out.1; have hk1 : KpB bo n2 wS w1 := Mod.trans H2.out.2 (Ext.mod y1 _); have HK1 := Lib.hid hk1; clear hk1 y1; dsimp only [enc2] at hy)
            refine hR.mono ?_
            rintro e W3 (⟨rfl, hJ3, hk3⟩ | ⟨rfl, hJx3⟩)
            · have H3 := Lib.hid (And.intro hJ3 (Mod.trans HK1.out hk3))
              clear hJ3 hk3
              gi_wp2
              go_roundw
              case rel => exact ⟨b + 1, by omega, by go_num, by rw [HN.out, ← List.append_assoc]; exact H3.out.1, H3.out.2⟩
              case measure => simp [intOf]; omega
            · have H3 := Lib.hid hJx3
              clear hJx3
              gi_wp2
              refine bodyPost_ret (results_none rfl _ _ _) rfl ?_
              exact ⟨⟨_, rfl⟩, .inr ⟨_, by have h := HLT.out.2; rw [HN.out, ← List.append_assoc] at h; exact h, H3.out⟩⟩
        · have hbl' : ¬ (b : Int) < (N : Int) := by omega
          have HB : Hid (b = N) := Lib.hid (by omega)
          have H2 := Lib.hid (And.intro hj hk)
          clear hj hk
          gi_wp2
          go_roundw
          case rel => exact ⟨a + 1, by omega, by go_num, by have hb := HB.out; have h := H2.out.1; rw [hb] at h; rw [listP_succ]; exact h, H2.out.2⟩
          case measure => simp [intOf]; omega
    · have hlt' : ¬ (a : Int) < (N : Int) := by omega
      have HA : Hid (a = N) := Lib.hid (by omega)
      have H1 := Lib.hid (And.intro hj hk)
      clear hj hk
      gi_wp2
      go_end0
      have h := H1.out.1
      have ha := HA.out
      rw [ha] at h
      exact ⟨⟨_, rfl⟩, .inl h⟩
theorem pairs1_stops (n : Nat) (hn : 1 ≤ n) (bo n2 B : Nat) (wq wS : World) (p : Value) (N : Nat) (R : Nat → Nat → Bool) (hp : RelIs wq p N R) (hx : Ext wq wS) (hbo : wq.heap.size ≤ bo) (hn2 : wS.heap.size = n2) (hB : wS.heap[B]? = some (.cells #[p] 28 (0, 0))) (hne : B ≠ bo) :
    SeqStopsK Fence.wide n Try.prog 66 #[.pointer (some ⟨B, 0, none⟩)] enc2 (KpB bo n2) (fun ys => ys = listR N R) (fun pre => pre <+: listR N R) (listR N R).length wS := fun l J Jx W hW hJ _ hY h0 =>
  pairs1_in n hn l bo n2 B wq wS p N R hp hx hbo hn2 hB hne J Jx W hW hJ hY h0
theorem pairs_any (w : World) (g : Nat) : Calls Try.prog 48 #[.pointer (some ⟨g, 0, none⟩)] w fun e w' => e = .returned (.func (.func 66) #[] #[.pointer (some ⟨w.heap.size, 0, none⟩)]) ∧ w' = w.alloc (.cells #[.pointer (some ⟨g, 0, none⟩)] 28) := by
  go_enter Try.func48, Try.ntmps48
  go_wp2
  go_ret
  exact ⟨rfl, rfl⟩
/-- What ranged hands back. -/
def RangedPost (l : List (Int × Int)) (w : World) (e : Ending) (w' : World) : Prop := ∃ v, e = .returned v ∧ PairsOwn w' v l ∧ Ext w w'
theorem infoP : (Try.prog.info? 32).map (fun i => (i.zero, i.size, i.bytes)) = some (some (.agg #[.int .i64 0, .int .i64 0]), 2, 16) := by kernel_rfl
def pcs (l : List (Int × Int)) : List Value := flat 2 l.length (fun i j => prcell (prn l i) j)
theorem pcs_snoc (l : List (Int × Int)) (x : Int × Int) : pcs (l ++ [x]) = pcs l ++ [.int .i64 x.1, .int .i64 x.2] := by
  unfold pcs
  rw [List.length_append, List.length_singleton, flat_succ _ _ _ (by decide)]
  congr 1
  · exact flat_congr fun i j hi _ => by rw [prn_snoc_lt hi]
  · simp [List.range, List.range.loop, prcell, prn_snoc]
set_option maxRecDepth 100000 in
set_option maxHeartbeats 4000000 in
theorem ranged_any (w : World) (p : Value) (N : Nat) (R : Nat → Nat → Bool) (hp : RelIs w p N R) (m : Int) (hm : I64 m) :
    Calls Try.prog 19 #[p, .int .i64 m] w (RangedPost ((listR N R).take m.toNat) w) := by
  obtain ⟨g, rfl⟩ := hp.ptr
  by_cases hm0 : m ≤ 0
  · have HZ : Hid ((listR N R).take m.toNat = []) := Lib.hid (by rw [show m.toNat = 0 by omega]; rfl)
    clear hm
    go_enter Try.func19, Try.ntmps19
    go_wp2_with fail
    refine (pairs_any _ g).mono ?_
    rintro e w1 ⟨rfl, rfl⟩
    go_wp2_with fail
    go_ret
    exact ⟨_, rfl, by rw [HZ.out]; exact World.ownsRow_nil _ _ _ _, ((((Mod.refl _ _).alloc _).alloc _).alloc _)⟩
  · have hm1 : ¬ m ≤ 0 := hm0
    obtain ⟨M, rfl⟩ := Int.eq_ofNat_of_zero_le (show 0 ≤ m by omega)
    have hMpos : 0 < M := by omega
    have hMle : (M : Int) ≤ 9223372036854775807 := by unfold I64 at hm; omega
    obtain ⟨i0, hi, hz0, hz1, hz2⟩ := info_parts infoP
    have hLL : (listR N R).length ≤ 4096 := by have h1 := listP_len R hp.len.2 N; have := hp.len.2; unfold listR; omega
    clear hm hm0
    have hfn := fun w fn fi ca => run_eql_func_nil (P := Try.prog) w 71 _ _ _ fn fi ca Try.underlying71
    refine (callsIn_wide (n := 4)).1 ?_
    refine callsIn_of_wp_marks Try.func19 rfl trivial ?_ rfl
    simp only [Try.ntmps19, List.size_toArray, List.length_cons, List.length_nil, Nat.reduceAdd, Nat.reduceSub, Array.replicate_succ, Array.replicate_zero, List.push_toArray, List.append_toArray, List.nil_append, List.cons_append]
    gi_wp2_with (refine ⟨trivial, ?_⟩; gi_at_call 48; refine (callsIn_wide.2 (pairs_any _ g)).mono ?_; rintro e w1 ⟨rfl, rfl⟩)
    obtain ⟨W0, hW0⟩ : ∃ W0, W0 = ((w.alloc (.cells #[.int .i64 (M : Int)] 3)).alloc (.cells #[.slice none 0 0] 23)).alloc (.cells #[.pointer (some ⟨g, 0, none⟩)] 28) := ⟨_, rfl⟩
    have x0 : Ext w W0 := by rw [hW0]; exact ((((Mod.refl _ _).alloc _).alloc _).alloc _)
    have hsz : W0.heap.size = w.heap.size + 1 + 1 + 1 := by rw [hW0]; simp
    have bn : Boxed W0 w.heap.size 3 (.int .i64 (M : Int)) := by rw [hW0]; exact ((Boxed.new w _ _).alloc _).alloc _
    have bO : Boxed W0 (w.heap.size + 1) 23 (.slice none 0 0) := by
      rw [hW0]; have h := Boxed.new (w.alloc (.cells #[.int .i64 (M : Int)] 3)) 23 (.slice none 0 0); rw [World.size_alloc] at h; exact h.alloc _
    have bB : W0.heap[w.heap.size + 1 + 1]? = some (.cells #[.pointer (some ⟨g, 0, none⟩)] 28 (0, 0)) := by
      rw [hW0]; have h := Boxed.new ((w.alloc (.cells #[.int .i64 (M : Int)] 3)).alloc (.cells #[.slice none 0 0] 23)) 28 (.pointer (some ⟨g, 0, none⟩)); rw [World.size_alloc, World.size_alloc] at h; exact h
    rw [← hW0]
    clear hW0
    have HX0 := Lib.hid (And.intro x0 (And.intro bn hsz))
    refine wpIn_rangeFunc_ownG (n := 4) rfl (by decide) (gf := 66) (lb := #[.pointer (some ⟨w.heap.size + 1 + 1, 0, none⟩)]) rfl trivial (enters_of Try.func66 (by kernel_rfl) rfl)
      (pairs1_stops 3 (by decide) (w.heap.size + 1) W0.heap.size (w.heap.size + 1 + 1) w W0 _ N R hp x0 (by omega) rfl bB (by omega)) (fun h k => Mod.trans h k) (fun W l o o' hl _ _ _ => KpB.putObj o' hl) (Below.refl _ _) (fun _ => rfl)
      (fun pre W => (∃ v, Boxed W (w.heap.size + 1) 23 v ∧ W.ownsRow W0.heap.size 32 2 v pre.length (pcs pre) ∧ True) ∧ pre.length < M ∧ KpB (w.heap.size + 1) W0.heap.size W0 W)
      (fun c pre W => c = .exit 0 ∧ (∃ v, Boxed W (w.heap.size + 1) 23 v ∧ W.ownsRow W0.heap.size 32 2 v pre.length (pcs pre) ∧ True) ∧ pre.length = M ∧ KpB (w.heap.size + 1) W0.heap.size W0 W)
      (fun s X Y row ⟨h1, h2, h3⟩ hg hr => ⟨(holdsRow_own W0.heap.size (w.heap.size + 1) 23 32 2 (fun pre : List (Int × Int) => pre.length) pcs (fun _ _ => True)) s X Y row h1 hg (fun r e => (hr r e).2), h2, kpb_own W0 s X Y row h3 hg hr⟩)
      (fun c s X Y row ⟨h0, h1, h2, h3⟩ hg hr => ⟨h0, (holdsRow_own W0.heap.size (w.heap.size + 1) 23 32 2 (fun pre : List (Int × Int) => pre.length) pcs (fun _ _ => True)) s X Y row h1 hg (fun r e => (hr r e).2), h2, kpb_own W0 s X Y row h3 hg hr⟩)
      ⟨⟨_, bO, World.ownsRow_nil _ _ _ _, trivial⟩, hMpos, Mod.refl _ _⟩
      (fun x => { tmps := #[.pointer (some ⟨g, 0, none⟩), .int .i64 (M : Int), undef, .pointer (some ⟨w.heap.size, 0, none⟩), .slice none 0 0, .pointer (some ⟨w.heap.size + 1, 0, none⟩), .func (.func 66) #[] #[.pointer (some ⟨w.heap.size + 1 + 1, 0, none⟩)], .int .i64 x.1, .int .i64 x.2, .pointer (some ⟨g, 0, none⟩), .func (.func 66) #[] #[.pointer (some ⟨w.heap.size + 1 + 1, 0, none⟩)], .int .i64 (M : Int), .bool false, .bool false, .func (.func 66) #[] #[.pointer (some ⟨w.heap.size + 1 + 1, 0, none⟩)], .bool false, .bool false, .func (.func 66) #[] #[.pointer (some ⟨w.heap.size + 1 + 1, 0, none⟩)], .int .i64 x.1, .int .i64 x.2, undef, undef, undef, undef, undef, undef, undef, undef, undef, undef, undef], defers := [] }) ?assign ?body ?done ?stop
    case assign =>
      intro l x W K hK
      dsimp only [enc2]
      gi_wp2
      exact hK
    case body =>
      rintro l pre x W ⟨⟨v, hv, hrow, -⟩, hlt, hk⟩ hlen
      have hsz2 := hk.size
      have hc := hv.cell
      have hcn : W.cell? ⟨w.heap.size, 0, none⟩ = some (.int .i64 (M : Int)) := by
        have h2 := Mod.blk hk HX0.out.2.1 (fun h => by rcases h with h | h <;> omega)
        simp [World.cell?, h2]
      have hob : ∀ k, v.ownBlock = some k → W0.heap.size ≤ k := by
        rcases hrow.2 with ⟨rfl, _⟩ | ⟨g9, cap9, cur9, rfl, hz9, _⟩
        · intro k e; cases e
        · intro k e; simp [Value.ownBlock] at e; omega
      have HK := Lib.hid hk
      have hpl : (pre.length : Int) < (M : Int) := by omega
      clear hk
      gi_wp2_with (gi_at_builtin; go_loud (refine wpListIn_append_own _ rfl _ _ 23 rfl W0.heap.size 32 i0 (.agg #[.int .i64 0, .int .i64 0]) 2 16 Try.underlying23 hi hz0 hz1 hz2 rfl (by decide) _ _ _ rfl (hrow.alloc _) ⟨W.heap.size, 0, none⟩ 1 1 [.int .i64 x.1, .int .i64 x.2] rfl rfl (cell_two_new _ _ _ _) (one2i _ _) (by simp only [maxLen]; omega) (by omega) (by simp; omega) ?_; intro v' w1 hown' hgrow _; obtain ⟨g', cap', rfl⟩ := ownsRow_succ hown'; have hB9 := Mod.grown (Mod.alloc (Mod.refl (fun q => q = w.heap.size + 1 ∨ W0.heap.size ≤ q) W) _) hgrow (fun k e => .inl (.inr (hob k e))); obtain ⟨hv1, hv2, hr2, hk2, hb2⟩ := hv.appended (n₀ := 0) (by decide) (row_weak hrow) (Nat.zero_le _) (Nat.zero_le _) (row_weak hown') hgrow; have hc1 := hv1.cell; have hf1 := hv1.frozen; have hcn1 := Mod.cell hB9 hcn (fun h => by rcases h with h | h <;> (dsimp only at h; omega)); have HB9 := Lib.hid hB9; clear hB9))
      · have hx : (M : Int) ≤ (pre.length : Int) + 1 := by assumption
        have hB2 : KpB (w.heap.size + 1) W0.heap.size W (w1.setCell ⟨w.heap.size + 1, 0, none⟩ (.slice (some ⟨g', 0, none⟩) (pre.length + 1) cap')) := Mod.setCell HB9.out (.inl (.inl rfl)) _
        have hrw := row_base hr2 hown'
        rw [← pcs_snoc] at hrw
        exact ⟨hk2.from _, rfl, ⟨_, hv2, by rw [List.length_append, List.length_singleton]; exact hrw, trivial⟩, by rw [List.length_append, List.length_singleton]; omega, Mod.trans HK.out hB2⟩
      · have hx : (pre.length : Int) + 1 < (M : Int) := by assumption
        have hB2 : KpB (w.heap.size + 1) W0.heap.size W (w1.setCell ⟨w.heap.size + 1, 0, none⟩ (.slice (some ⟨g', 0, none⟩) (pre.length + 1) cap')) := Mod.setCell HB9.out (.inl (.inl rfl)) _
        have hrw := row_base hr2 hown'
        rw [← pcs_snoc] at hrw
        exact ⟨hk2.from _, hB2, ⟨_, hv2, by rw [List.length_append, List.length_singleton]; exact hrw, trivial⟩, by rw [List.length_append, List.length_singleton]; omega, Mod.trans HK.out hB2⟩
    case done =>
      rintro D ys W hD rfl ⟨⟨v, hv, hrow, -⟩, hlt, hk⟩ hK
      have hc := hv.cell
      have HKK := Lib.hid (And.intro hlt (And.intro hk hrow))
      clear hlt hk hrow
      gi_wp2
      obtain ⟨hlt, hk, hrow⟩ := HKK.out
      refine ⟨by simp, .inl ⟨_, _, rfl, run_takeDeferred hK, ?_⟩⟩
      have hx : Ext w W := HX0.out.1.trans' hk (fun q hq => .inr (by rcases hq with h | h <;> omega))
      refine ⟨_, results_tmp rfl _ _ _, v, rfl, ?_, hx.trans' (G := fun q => q = D) (Mod.grown (Mod.refl _ _) (grownBy_putObj' W D _) (fun k e => by cases e; exact .inl rfl)) (fun q hq => .inr (by omega))⟩
      have e : (listR N R).take (M : Int).toNat = listR N R := List.take_of_length_le (by omega)
      rw [e]
      exact row_weak (ownsRow_putObj hrow _ hK rfl)
    case stop =>
      rintro D c pre W hD hpre ⟨rfl, ⟨v, hv, hrow, -⟩, hlt, hk⟩ hK
      have hc := hv.cell
      have HKK := Lib.hid (And.intro hlt (And.intro hk (And.intro hrow hpre)))
      clear hlt hk hrow hpre
      gi_wp2
      obtain ⟨hlt, hk, hrow, hpre⟩ := HKK.out
      refine ⟨by simp, .inl ⟨_, _, rfl, run_takeDeferred hK, ?_⟩⟩
      have hx : Ext w W := HX0.out.1.trans' hk (fun q hq => .inr (by rcases hq with h | h <;> omega))
      refine ⟨_, results_tmp rfl _ _ _, v, rfl, ?_, hx.trans' (G := fun q => q = D) (Mod.grown (Mod.refl _ _) (grownBy_putObj' W D _) (fun k e => by cases e; exact .inl rfl)) (fun q hq => .inr (by omega))⟩
      have e : (listR N R).take (M : Int).toNat = pre := by
        have h := List.prefix_iff_eq_take.1 hpre
        rw [hlt] at h
        rw [Int.toNat_natCast]; exact h.symm
      rw [e]
      exact row_weak (ownsRow_putObj hrow _ hK rfl)
end Go.Proofs.Ytkibdabbjbcboaa
