/-
  The operations of chapter 20's statements in memory. No condition.
-/
import Derived.Test.YtbhocahmhmafmaaGreatPFrame
import Derived.Test.YtbhocahmhmafmaaGreatPElemAt
import Derived.Test.YtbhocahmhmafmaaGreatPBaseA
namespace Go.Proofs.YtbhocahmhmafmaaGreat
open Go.Ren Go.RowKit
set_option linter.unusedVariables false
def o20 (o : Op20) (v : Value) : List Value := [.int .i64 o.kind, .int .i64 o.ag, .int .i64 o.blk, .int .i64 o.at_, .int .i64 o.size, .int .i64 o.op, .bool o.seq, .bool o.nt, .int .u64 (o.word : Int), .int .u64 (o.want : Int), v]
structure Op20In (w : World) (o : Op20) (v : Value) : Prop where
 fr : IntsAt w v o.fr
 far : o.fr.length * 8 ≤ 140737488355328
 i0 : I64 o.kind
 i1 : I64 o.ag
 i2 : I64 o.blk
 i3 : I64 o.at_
 i4 : I64 o.size
 i5 : I64 o.op
 w1 : o.word < 18446744073709551616
 w2 : o.want < 18446744073709551616
theorem Op20In.ext {w w' : World} {o : Op20} {v : Value} (h : Op20In w o v) (x : Ext w w') : Op20In w' o v := ⟨h.fr.ext x, h.far, h.i0, h.i1, h.i2, h.i3, h.i4, h.i5, h.w1, h.w2⟩
def o20Sh : Sz := .st (.fcons 1 .i64 (.fcons 1 .i64 (.fcons 1 .i64 (.fcons 1 .i64 (.fcons 1 .i64 (.fcons 1 .i64 (.fcons 1 .bool (.fcons 1 .bool (.fcons 1 .u64 (.fcons 1 .u64 (.fcons 1 (.sl 1 8 .i64) .fnil)))))))))))
def Ops20 (w : World) (v : Value) (l : List Op20) : Prop := ∃ xs, Sl w v 11 l.length xs ∧ ∀ i (hi : i < l.length), ∃ u, (xs.drop (i * 11)).take 11 = o20 l[i] u ∧ Op20In w l[i] u
theorem one_of20 {cs : List Value} {u : Value} (h : cs.take 1 = [u]) : cs = u :: cs.drop 1 := by
 have := List.take_append_drop 1 cs
 rw [h] at this; exact this.symm
theorem o20_dec {w : World} {cs : List Value} (h : o20Sh.Has w cs) : ∃ o : Op20, ∃ u, cs = o20 o u ∧ Op20In w o u := by
 obtain ⟨⟨k, h1, i1⟩, ⟨a, h2, i2⟩, ⟨b, h3, i3⟩, ⟨c, h4, i4⟩, ⟨d, h5, i5⟩, ⟨e, h6, i6⟩, ⟨s, h7⟩, ⟨n, h8⟩, ⟨x, h9, i9⟩, ⟨y, h10, i10⟩, h11, h12⟩ := h
 obtain ⟨v, l, h11, hl, hr⟩ := Sz.ints h11
 refine ⟨⟨k, a, b, c, d, e, s, n, x, y, l⟩, v, ?_, ⟨hl, Nat.le_trans hr (by decide), i1, i2, i3, i4, i5, i6, i9, i10⟩⟩
 rw [one_of20 h1, one_of20 h2, one_of20 h3, one_of20 h4, one_of20 h5, one_of20 h6, one_of20 h7, one_of20 h8, one_of20 h9, one_of20 h10, one_of20 h11, h12]; rfl
set_option maxRecDepth 100000 in
theorem ops20_arg {H : Type} {enc : TypeId × Value → H} {w : World} {base : Nat} {spare : Nat → Bool} {held : Bool} {v : Value} {d : DataW H} {ps : List MemPlace} {r : Reach} {b0 : Nat} (hval : Value.okWide Tryz.prog w r b0 22 v)
 (h : DataW.Trod enc Tryz.prog w base spare held 22 v d ps) (hz : ∀ n ∈ d.weights Tryz.prog 22, n ≤ reachBytes) : ∃ l, Ops20 w v l := by
 have hs := Sz.open_slice_arg (sz := 11) (by_ := 96) (s := o20Sh) Tryz.underlying22 (by kernel_rfl) hval h hz
 obtain ⟨l, xs, h1, _, h2⟩ := Sz.dec (R := fun (o : Op20) cs => ∃ u, cs = o20 o u ∧ Op20In w o u) hs (fun cs h => o20_dec h)
 exact ⟨l, xs, h1, h2⟩
theorem IO20 : EInfo Tryz.prog 22 35 11 96 (.agg #[.int .i64 0, .int .i64 0, .int .i64 0, .int .i64 0, .int .i64 0, .int .i64 0, .bool false, .bool false, .int .u64 0, .int .u64 0, .slice none 0 0]) := ⟨Tryz.underlying22, by kernel_rfl, rfl, by decide⟩
theorem Ops20.ext {w w' : World} {v : Value} {l : List Op20} (h : Ops20 w v l) (x : Ext w w') : Ops20 w' v l := by
 obtain ⟨xs, hs, hr⟩ := h
 exact ⟨xs, hs.ext (by decide) x, fun i hi => by obtain ⟨u, h1, h2⟩ := hr i hi; exact ⟨u, h1, h2.ext x⟩⟩
theorem Ops20.len {w : World} {v : Value} {l : List Op20} (h : Ops20 w v l) : ∃ xs, Sl w v 11 l.length xs := by obtain ⟨xs, hs, _⟩ := h; exact ⟨xs, hs⟩
theorem Ops20.cells {w : World} {v : Value} {l : List Op20} (h : Ops20 w v l) {i : Nat} (hi : i < l.length) : ∃ u, Op20In w l[i] u ∧ w.cell? (at_ v (i * 11)) = some (.int .i64 l[i].kind) ∧ ∀ j c, 0 < j → (o20 l[i] u)[j]? = some c → w.cell? ⟨(at_ v (i * 11)).block, (at_ v (i * 11)).off + j, none⟩ = some c := by
 obtain ⟨xs, hs, hr⟩ := h
 obtain ⟨u, h1, h2⟩ := hr i hi
 have key : ∀ j, j < 11 → xs[i * 11 + j]? = (o20 l[i] u)[j]? := fun j hj => by rw [← h1, List.getElem?_take, if_pos hj, List.getElem?_drop]
 refine ⟨u, h2, ?_, fun j c hj hc => ?_⟩
 · exact hs.cell _ _ (by have := key 0 (by decide); rw [Nat.add_zero] at this; rw [this]; rfl)
 · have hj11 : j < 11 := by
    rcases Nat.lt_or_ge j 11 with h | h
    · exact h
    · rw [List.getElem?_eq_none (by simp [o20]; omega)] at hc; cases hc
   exact hs.cell_off hj (by rw [key j hj11]; exact hc)
abbrev o20V (o : Op20) (v : Value) : Value := .agg #[.int .i64 o.kind, .int .i64 o.ag, .int .i64 o.blk, .int .i64 o.at_, .int .i64 o.size, .int .i64 o.op, .bool o.seq, .bool o.nt, .int .u64 (o.word : Int), .int .u64 (o.want : Int), v]
end Go.Proofs.YtbhocahmhmafmaaGreat
