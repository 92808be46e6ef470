/-
  Literal logs: what a contract of a function that returns one says. No condition.
-/
import Derived.Test.YtkibdabbjbcboaaEvReads
namespace Go.Proofs.Ytkibdabbjbcboaa
open Go.Ren Go.RowKit
set_option linter.unusedVariables false
def LitPost (L : Lg) (w : World) (e : Ending) (w' : World) : Prop := ∃ ve V, e = .returned (.agg #[ve, .slice none 0 0]) ∧ LogIn w' ve (.slice none 0 0) V L ∧ Ext w w'
theorem litB (W : World) : BytesAt W (.slice none 0 0) [] := (Own.nil W 5 1).sl
theorem litI (W : World) : IntsAt W (.slice none 0 0) [] := ⟨(Own.nil W 3 1).sl, fun x hx => by cases hx⟩
theorem i64_s (n : Int) (h : (decide (-1000 ≤ n) && decide (n ≤ 1000)) = true) : I64 n := by simp at h; unfold I64; omega
theorem lit64 {l : List Int} (h : l.all (fun x => decide (-9223372036854775808 ≤ x) && decide (x ≤ 9223372036854775807)) = true) : ∀ x ∈ l, I64 x := by
  intro x hx
  have := List.all_eq_true.1 h x hx
  simp at this; exact this
theorem log2_in {w : World} {a b : Ev} {v u : Vs} (ha : EvAt w a v) (hb : EvAt w b u) {g : Nat} (h : w.heap[g]? = some (.cells #[.int .i64 a.ag, .int .i64 a.kind, .bool a.seq, .bool a.nt, .int .i64 a.blk, .int .i64 a.at_, .int .i64 a.size, v.r, v.w, v.f, .int .i64 b.ag, .int .i64 b.kind, .bool b.seq, .bool b.nt, .int .i64 b.blk, .int .i64 b.at_, .int .i64 b.size, u.r, u.w, u.f] 46 (0, 0))) :
    LogIn w (.slice (some ⟨g, 0, none⟩) 2 2) (.slice none 0 0) (fun i => if i = 0 then v else u) ⟨[a, b], []⟩ := by
  have hs := built_sl (n := 2) (sz := 10) h rfl (by simp [maxLen])
  have e : (flat 10 2 fun i j => evcell (evn [a, b] i) (if i = 0 then v else u) j) = [.int .i64 a.ag, .int .i64 a.kind, .bool a.seq, .bool a.nt, .int .i64 a.blk, .int .i64 a.at_, .int .i64 a.size, v.r, v.w, v.f, .int .i64 b.ag, .int .i64 b.kind, .bool b.seq, .bool b.nt, .int .i64 b.blk, .int .i64 b.at_, .int .i64 b.size, u.r, u.w, u.f] := by
    simp [flat, List.range, List.range.loop, evcell, evn]
  refine ⟨by show Sl w _ 10 2 (flat 10 2 _); rw [e]; exact hs, fun i hi => ?_, (Own.nil _ 32 2).sl, fun i hi => absurd hi (Nat.not_lt_zero _)⟩
  match i, hi with
  | 0, _ => exact ha
  | 1, _ => exact hb
end Go.Proofs.Ytkibdabbjbcboaa
