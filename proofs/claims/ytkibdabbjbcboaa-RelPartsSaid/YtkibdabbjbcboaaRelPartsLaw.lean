/-
  RelParts, the plain law: what reads-from and synchronizes-with are made of. No condition.
-/
import Derived.Test.YtkibdabbjbcboaaRelTool
namespace Go.Ren
set_option linter.unusedVariables false
def rdP (L : Lg) (a b i : Nat) : Bool := ((evn L.ev b).fr.getD i 0 == (a : Int))
def prP (L : Lg) (a b i : Nat) : Bool := ((prn L.pr i).1 == (a : Int)) && ((prn L.pr i).2 == (b : Int))
theorem rdP_all (L : Lg) (a b : Nat) : anyB (rdP L a b) (evn L.ev b).fr.length = fromB L a b := by
  rw [Bool.eq_iff_iff, anyB_iff]
  unfold fromB rdP
  rw [List.contains_iff_mem]
  constructor
  · rintro ⟨i, hi, h⟩
    rw [beq_iff_eq, List.getD_eq_getElem?_getD, List.getElem?_eq_getElem hi, Option.getD_some] at h
    rw [← h]; exact List.getElem_mem hi
  · intro h
    obtain ⟨i, hi, e⟩ := List.getElem_of_mem h
    exact ⟨i, hi, by rw [beq_iff_eq, List.getD_eq_getElem?_getD, List.getElem?_eq_getElem hi, Option.getD_some]; exact e⟩
theorem prP_all (L : Lg) (a b : Nat) : anyB (prP L a b) L.pr.length = L.pr.contains ((a : Int), (b : Int)) := by
  rw [Bool.eq_iff_iff, anyB_iff, List.contains_iff_mem]
  unfold prP
  constructor
  · rintro ⟨i, hi, h⟩
    rw [Bool.and_eq_true, beq_iff_eq, beq_iff_eq, prn_eq hi] at h
    have : L.pr[i] = ((a : Int), (b : Int)) := Prod.ext h.1 h.2
    rw [← this]; exact List.getElem_mem hi
  · intro h
    obtain ⟨i, hi, e⟩ := List.getElem_of_mem h
    exact ⟨i, hi, by rw [prn_eq hi, e]; simp⟩
theorem parts_law {L : Lg} {a b : Nat} {RD PD S1 S2 Q : Bool} (hr : RD = fromB L a b) (hp : PD = L.pr.contains ((a : Int), (b : Int))) (h1 : S1 = (evn L.ev a).seq) (h2 : S2 = (evn L.ev b).seq) (hq : Q = evEq (evn L.ev a) (evn L.ev b)) : synB L a b = (PD || (RD && S1 && S2 && Q)) := by
  unfold synB synE
  rw [hr, hp, h1, h2, hq, Bool.or_comm]
end Go.Ren
namespace Go.Proofs.Ytkibdabbjbcboaa
open Go.Ren Go.RowKit
set_option linter.unusedVariables false
/-- Two boxes with an event each. -/
def TwoEv (w0 : World) (x y : Ev) (u v : Vs) (s1 s2 : Value) (wq : World) : Prop := ∃ g1 g2, s1 = .pointer (some ⟨g1, 0, none⟩) ∧ s2 = .pointer (some ⟨g2, 0, none⟩) ∧ EvBox wq g1 x u ∧ EvBox wq g2 y v ∧ Ext w0 wq
theorem TwoEv.keep {w0 : World} {x y : Ev} {u v : Vs} {s1 s2 : Value} {wq : World} (h : TwoEv w0 x y u v s1 s2 wq) (hx : EvAt w0 x u) (hy : EvAt w0 y v) : ∃ b1 b2, s1 = .pointer (some ⟨b1, 0, none⟩) ∧ s2 = .pointer (some ⟨b2, 0, none⟩) ∧ Ext w0 wq ∧
    Hid (∀ w', Ext wq w' → (w'.cell? ⟨b1, 0, none⟩ = some (.int .i64 (x).ag) ∧ w'.cell? ⟨b1, 1, none⟩ = some (.int .i64 (x).kind) ∧ w'.cell? ⟨b1, 2, none⟩ = some (.bool (x).seq) ∧ w'.cell? ⟨b1, 3, none⟩ = some (.bool (x).nt) ∧ w'.cell? ⟨b1, 4, none⟩ = some (.int .i64 (x).blk) ∧ w'.cell? ⟨b1, 5, none⟩ = some (.int .i64 (x).at_) ∧ w'.cell? ⟨b1, 6, none⟩ = some (.int .i64 (x).size) ∧ w'.cell? ⟨b1, 7, none⟩ = some u.r ∧ w'.cell? ⟨b1, 8, none⟩ = some u.w ∧ w'.cell? ⟨b1, 9, none⟩ = some u.f) ∧ (w'.cell? ⟨b2, 0, none⟩ = some (.int .i64 (y).ag) ∧ w'.cell? ⟨b2, 1, none⟩ = some (.int .i64 (y).kind) ∧ w'.cell? ⟨b2, 2, none⟩ = some (.bool (y).seq) ∧ w'.cell? ⟨b2, 3, none⟩ = some (.bool (y).nt) ∧ w'.cell? ⟨b2, 4, none⟩ = some (.int .i64 (y).blk) ∧ w'.cell? ⟨b2, 5, none⟩ = some (.int .i64 (y).at_) ∧ w'.cell? ⟨b2, 6, none⟩ = some (.int .i64 (y).size) ∧ w'.cell? ⟨b2, 7, none⟩ = some v.r ∧ w'.cell? ⟨b2, 8, none⟩ = some v.w ∧ w'.cell? ⟨b2, 9, none⟩ = some v.f) ∧ EvAt w' ⟨x.ag, x.kind, x.seq, x.nt, x.blk, x.at_, x.size, x.rd, x.wr, x.fr⟩ u ∧ EvAt w' ⟨y.ag, y.kind, y.seq, y.nt, y.blk, y.at_, y.size, y.rd, y.wr, y.fr⟩ v) := by
  obtain ⟨b1, b2, e1, e2, h1, h2, h3⟩ := h
  exact ⟨b1, b2, e1, e2, h3, Lib.hid fun w' z => ⟨(h1.ext z).cells, (h2.ext z).cells, hx.ext (h3.trans z), hy.ext (h3.trans z)⟩⟩
end Go.Proofs.Ytkibdabbjbcboaa
