/-
  What the laws on relations have in common. No condition.
-/
import Derived.Test.YtkibdabbjbcboaaRelBefore
import Derived.Test.YtkibdabbjbcboaaRelList
import Derived.Test.YtkibdabbjbcboaaEvFew
import Derived.Test.YtkibdabbjbcboaaEvTool
import Derived.Test.YtkibdabbjbcboaaPlanT
namespace Go.Ren
set_option linter.unusedVariables false
theorem hasB_nat {n : Nat} {R : Nat → Nat → Bool} {a b : Nat} (ha : a < n) (hb : b < n) : hasB n R (a : Int) (b : Int) = R a b := by
  unfold hasB
  have : decide (0 ≤ (a : Int) ∧ (a : Int) < (n : Int) ∧ 0 ≤ (b : Int) ∧ (b : Int) < (n : Int)) = true := by rw [decide_eq_true_eq]; omega
  rw [this]; simp
theorem relN_may {L : Lg} (h : mayL L = true) : relN L = L.ev.length := by unfold relN; rw [if_pos h]
theorem relN_not {L : Lg} (h : mayL L = false) : relN L = 0 := by unfold relN; rw [h]; rfl
/-- Up to k: any of these? -/
def anyB (p : Nat → Bool) (k : Nat) : Bool := (List.range k).any p
theorem anyB_succ (p : Nat → Bool) (k : Nat) : anyB p (k + 1) = (anyB p k || p k) := by simp [anyB, List.range_succ, List.any_append]
theorem anyB_iff {p : Nat → Bool} {k : Nat} : anyB p k = true ↔ ∃ c, c < k ∧ p c = true := by simp [anyB, List.any_eq_true]
theorem anyB_true {p : Nat → Bool} {k : Nat} (h : p k = true) : anyB p (k + 1) = true := by rw [anyB_succ, h, Bool.or_true]
theorem anyB_keep {p : Nat → Bool} {k : Nat} (h : p k = false) : anyB p (k + 1) = anyB p k := by rw [anyB_succ, h, Bool.or_false]
/-- P15.1: what happens-before is made of. -/
theorem goes_law {L : Lg} {a b : Nat} (hb : b < L.ev.length) : hbB L a b = ((decide (a < b) && (decide ((evn L.ev a).ag = (evn L.ev b).ag) || synB L a b)) || anyB (fun c => hbB L a c && hbB L c b) L.ev.length) := by
  rw [Bool.eq_iff_iff]
  simp only [Bool.or_eq_true, Bool.and_eq_true, decide_eq_true_eq, anyB_iff]
  constructor
  · intro h
    rcases hbB_first h with h1 | ⟨c, h1, h2⟩
    · unfold stepB at h1
      simp only [Bool.and_eq_true, Bool.or_eq_true, decide_eq_true_eq] at h1
      exact .inl ⟨h1.1.1, h1.2⟩
    · exact .inr ⟨c, (stepB_lt _ _ h1).2, hbB_step h1, h2⟩
  · rintro (⟨h1, h2⟩ | ⟨c, _, h1, h2⟩)
    · exact hbB_step (by unfold stepB; simp only [Bool.and_eq_true, Bool.or_eq_true, decide_eq_true_eq]; exact ⟨⟨h1, hb⟩, h2⟩)
    · exact hbB_trans h1 h2
end Go.Ren
namespace Go.Proofs.Ytkibdabbjbcboaa
open Go.Ren Go.RowKit
set_option linter.unusedVariables false
theorem rpost_is {n : Nat} {R : Nat → Nat → Bool} {w : World} {e : Ending} {w' : World} (h : RelPost n R w e w') : ∃ g, e = .returned (.pointer (some ⟨g, 0, none⟩)) ∧ RelIs w' (.pointer (some ⟨g, 0, none⟩)) n R ∧ Ext w w' := by
  obtain ⟨g, rv, r, h1, h2⟩ := h.loop
  exact ⟨g, h1, h2.is, h2.x⟩
theorem RelIs.congr {w : World} {p : Value} {n : Nat} {R R' : Nat → Nat → Bool} (h : RelIs w p n R) (e : ∀ a b, a < n → b < n → R a b = R' a b) : RelIs w p n R' := by
  obtain ⟨g, rv, r, M, h1, h2, h3⟩ := h
  exact ⟨g, rv, r, M, h1, h2, fun a b ha hb => (h3 a b ha hb).trans (e a b ha hb)⟩
/-- Two boxes with an event each. -/
def TwoEv (w0 : World) (x y : Ev) (u v : Vs) (s1 s2 : Value) (wq : World) : Prop := ∃ g1 g2, s1 = .pointer (some ⟨g1, 0, none⟩) ∧ s2 = .pointer (some ⟨g2, 0, none⟩) ∧ EvBox wq g1 x u ∧ EvBox wq g2 y v ∧ Ext w0 wq
theorem TwoEv.keep {w0 : World} {x y : Ev} {u v : Vs} {s1 s2 : Value} {wq : World} (h : TwoEv w0 x y u v s1 s2 wq) (hx : EvAt w0 x u) (hy : EvAt w0 y v) : ∃ b1 b2, s1 = .pointer (some ⟨b1, 0, none⟩) ∧ s2 = .pointer (some ⟨b2, 0, none⟩) ∧ Ext w0 wq ∧
    Hid (∀ w', Ext wq w' → (w'.cell? ⟨b1, 0, none⟩ = some (.int .i64 (x).ag) ∧ w'.cell? ⟨b1, 1, none⟩ = some (.int .i64 (x).kind) ∧ w'.cell? ⟨b1, 2, none⟩ = some (.bool (x).seq) ∧ w'.cell? ⟨b1, 3, none⟩ = some (.bool (x).nt) ∧ w'.cell? ⟨b1, 4, none⟩ = some (.int .i64 (x).blk) ∧ w'.cell? ⟨b1, 5, none⟩ = some (.int .i64 (x).at_) ∧ w'.cell? ⟨b1, 6, none⟩ = some (.int .i64 (x).size) ∧ w'.cell? ⟨b1, 7, none⟩ = some u.r ∧ w'.cell? ⟨b1, 8, none⟩ = some u.w ∧ w'.cell? ⟨b1, 9, none⟩ = some u.f) ∧ (w'.cell? ⟨b2, 0, none⟩ = some (.int .i64 (y).ag) ∧ w'.cell? ⟨b2, 1, none⟩ = some (.int .i64 (y).kind) ∧ w'.cell? ⟨b2, 2, none⟩ = some (.bool (y).seq) ∧ w'.cell? ⟨b2, 3, none⟩ = some (.bool (y).nt) ∧ w'.cell? ⟨b2, 4, none⟩ = some (.int .i64 (y).blk) ∧ w'.cell? ⟨b2, 5, none⟩ = some (.int .i64 (y).at_) ∧ w'.cell? ⟨b2, 6, none⟩ = some (.int .i64 (y).size) ∧ w'.cell? ⟨b2, 7, none⟩ = some v.r ∧ w'.cell? ⟨b2, 8, none⟩ = some v.w ∧ w'.cell? ⟨b2, 9, none⟩ = some v.f) ∧ EvAt w' ⟨x.ag, x.kind, x.seq, x.nt, x.blk, x.at_, x.size, x.rd, x.wr, x.fr⟩ u ∧ EvAt w' ⟨y.ag, y.kind, y.seq, y.nt, y.blk, y.at_, y.size, y.rd, y.wr, y.fr⟩ v) := by
  obtain ⟨b1, b2, e1, e2, h1, h2, h3⟩ := h
  exact ⟨b1, b2, e1, e2, h3, Lib.hid fun w' z => ⟨(h1.ext z).cells, (h2.ext z).cells, hx.ext (h3.trans z), hy.ext (h3.trans z)⟩⟩
end Go.Proofs.Ytkibdabbjbcboaa
