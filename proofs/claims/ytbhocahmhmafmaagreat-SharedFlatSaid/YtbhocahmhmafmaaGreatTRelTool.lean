/-
  What the laws on relations have in common. No condition. RelHeads, RelEdges, the plain laws: happens-before of a head, and of a log with a pair more. No condition. What package model computes, on plain lists. No condition, no program. The laws of chapter 16, on plain lists: the log's own order, heads. No condition. What package race computes, on plain lists; the laws of chapter 17. No condition, no program.
-/
import Derived.Test.YtbhocahmhmafmaaGreatTRelSync
import Derived.Test.YtbhocahmhmafmaaGreatTRelAt
import Derived.Test.YtbhocahmhmafmaaGreatTEvCopied
import Derived.Test.YtbhocahmhmafmaaGreatTPlan
import Derived.Test.YtbhocahmhmafmaaGreatTBlkLaw
namespace Go.Ren
set_option linter.unusedVariables false
theorem hasB_nat {n : Nat} {R : Nat → Nat → Bool} {a b : Nat} (ha : a < n) (hb : b < n) : hasB n R (a : Int) (b : Int) = R a b := by
 unfold hasB
 have : decide (0 ≤ (a : Int) ∧ (a : Int) < (n : Int) ∧ 0 ≤ (b : Int) ∧ (b : Int) < (n : Int)) = true := by rw [decide_eq_true_eq]; omega
 rw [this]; simp
theorem relN_may {L : Lg} (h : mayL L = true) : relN L = L.ev.length := by unfold relN; rw [if_pos h]
end Go.Ren
namespace Go.Proofs.YtbhocahmhmafmaaGreat
open Go.Ren Go.RowKit
set_option linter.unusedVariables false
theorem rpost_is {n : Nat} {R : Nat → Nat → Bool} {w : World} {e : Ending} {w' : World} (h : RelPost n R w e w') : ∃ g, e = .returned (.pointer (some ⟨g, 0, none⟩)) ∧ RelIs w' (.pointer (some ⟨g, 0, none⟩)) n R ∧ Ext w w' := by
 obtain ⟨g, rv, r, h1, h2⟩ := h.loop
 exact ⟨g, h1, h2.is, h2.x⟩
def TwoEv (w0 : World) (x y : Ev) (u v : Vs) (s1 s2 : Value) (wq : World) : Prop := ∃ g1 g2, s1 = .pointer (some ⟨g1, 0, none⟩) ∧ s2 = .pointer (some ⟨g2, 0, none⟩) ∧ EvBox wq g1 x u ∧ EvBox wq g2 y v ∧ Ext w0 wq
theorem TwoEv.keep {w0 : World} {x y : Ev} {u v : Vs} {s1 s2 : Value} {wq : World} (h : TwoEv w0 x y u v s1 s2 wq) (hx : EvAt w0 x u) (hy : EvAt w0 y v) : ∃ b1 b2, s1 = .pointer (some ⟨b1, 0, none⟩) ∧ s2 = .pointer (some ⟨b2, 0, none⟩) ∧ Ext w0 wq ∧
 Hid (∀ w', Ext wq w' → (w'.cell? ⟨b1, 0, none⟩ = some (.int .i64 (x).ag) ∧ w'.cell? ⟨b1, 1, none⟩ = some (.int .i64 (x).kind) ∧ w'.cell? ⟨b1, 2, none⟩ = some (.bool (x).seq) ∧ w'.cell? ⟨b1, 3, none⟩ = some (.bool (x).nt) ∧ w'.cell? ⟨b1, 4, none⟩ = some (.int .i64 (x).blk) ∧ w'.cell? ⟨b1, 5, none⟩ = some (.int .i64 (x).at_) ∧ w'.cell? ⟨b1, 6, none⟩ = some (.int .i64 (x).size) ∧ w'.cell? ⟨b1, 7, none⟩ = some u.r ∧ w'.cell? ⟨b1, 8, none⟩ = some u.w ∧ w'.cell? ⟨b1, 9, none⟩ = some u.f) ∧ (w'.cell? ⟨b2, 0, none⟩ = some (.int .i64 (y).ag) ∧ w'.cell? ⟨b2, 1, none⟩ = some (.int .i64 (y).kind) ∧ w'.cell? ⟨b2, 2, none⟩ = some (.bool (y).seq) ∧ w'.cell? ⟨b2, 3, none⟩ = some (.bool (y).nt) ∧ w'.cell? ⟨b2, 4, none⟩ = some (.int .i64 (y).blk) ∧ w'.cell? ⟨b2, 5, none⟩ = some (.int .i64 (y).at_) ∧ w'.cell? ⟨b2, 6, none⟩ = some (.int .i64 (y).size) ∧ w'.cell? ⟨b2, 7, none⟩ = some v.r ∧ w'.cell? ⟨b2, 8, none⟩ = some v.w ∧ w'.cell? ⟨b2, 9, none⟩ = some v.f) ∧ EvAt w' ⟨x.ag, x.kind, x.seq, x.nt, x.blk, x.at_, x.size, x.rd, x.wr, x.fr⟩ u ∧ EvAt w' ⟨y.ag, y.kind, y.seq, y.nt, y.blk, y.at_, y.size, y.rd, y.wr, y.fr⟩ v) := by
 obtain ⟨b1, b2, e1, e2, h1, h2, h3⟩ := h
 exact ⟨b1, b2, e1, e2, h3, Lib.hid fun w' z => ⟨(h1.ext z).cells, (h2.ext z).cells, hx.ext (h3.trans z), hy.ext (h3.trans z)⟩⟩
end Go.Proofs.YtbhocahmhmafmaaGreat
namespace Go.Ren
set_option linter.unusedVariables false
end Go.Ren
namespace Go.Ren
set_option linter.unusedVariables false
def frn (L : Lg) (r i : Nat) : Int := (evn L.ev r).fr.getD i 0
theorem frn_eq {L : Lg} {r i : Nat} {e : Ev} (he : e = evn L.ev r) (hi : i < e.fr.length) : frn L r i = e.fr[i] := by subst he; simp [frn, hi]
theorem frn_may {L : Lg} (h : mayL L = true) {r i : Nat} (hr : r < L.ev.length) (hi : i < (evn L.ev r).fr.length) : frn L r i = -1 ∨ ∃ a : Nat, frn L r i = (a : Int) ∧ a < r := by
 rw [frn_eq rfl hi]; exact may_from h hr hi
end Go.Ren
namespace Go.Ren
set_option linter.unusedVariables false
section
variable {L : Lg} {n : Int}
end
end Go.Ren
namespace Go.Ren
set_option linter.unusedVariables false
def unB (L : Lg) (a b : Nat) : Bool := evOver (evn L.ev a) (evn L.ev b) && (wrsB (evn L.ev a) || wrsB (evn L.ev b)) && !hbB L a b && !hbB L b a && !((evn L.ev a).seq && (evn L.ev b).seq && evEq (evn L.ev a) (evn L.ev b))
def cfR (L : Lg) (a b : Nat) : Bool := decide (a < b) && unB L a b
def cfL (L : Lg) : List (Int × Int) := if mayL L = true then listR L.ev.length (cfR L) else []
theorem mem_cfL {L : Lg} {p : Int × Int} : p ∈ cfL L ↔ mayL L = true ∧ ∃ a b : Nat, p = ((a : Int), (b : Int)) ∧ a < b ∧ b < L.ev.length ∧ unB L a b = true := by
 unfold cfL
 split
 · rename_i h
   rw [mem_listR]
   simp only [h, true_and]
   constructor
   · rintro ⟨a, b, rfl, h1, h2, h3⟩
     unfold cfR at h3
     simp only [Bool.and_eq_true, decide_eq_true_eq] at h3
     exact ⟨a, b, rfl, h3.1, h2, h3.2⟩
   · rintro ⟨a, b, rfl, h1, h2, h3⟩
     exact ⟨a, b, rfl, by omega, h2, by unfold cfR; simp [h1, h3]⟩
 · rename_i h
   simp [h]
theorem cfR_lt {L : Lg} (a b : Nat) (h : cfR L a b = true) : a < b := by
 unfold cfR at h
 simp only [Bool.and_eq_true, decide_eq_true_eq] at h
 exact h.1
end Go.Ren
