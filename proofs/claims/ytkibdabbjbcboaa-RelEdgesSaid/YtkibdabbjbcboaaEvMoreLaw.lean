/-
  The plain law of a log with an event more. No condition, no program.
-/
import Derived.Test.YtkibdabbjbcboaaEvHeadsLaw
namespace Go.Ren
open Go.Proofs.Ytkibdabbjbcboaa
set_option linter.unusedVariables false
def evA (a : Int) : Ev := ⟨a, 0, false, false, 0, 0, 0, [], [], []⟩
def evB (a : Int) (x : UInt8) : Ev := ⟨a, 2, false, false, 0, 0, 1, [], [x], []⟩
def evC (a : Int) (x : UInt8) (f : Int) : Ev := ⟨a, 1, false, false, 0, 0, 1, [x], [], [f]⟩
theorem mayL_snoc {L : Lg} (h : mayL L = true) (hl : L.ev.length ≤ 999) (e : Ev) : mayL ⟨L.ev ++ [e], L.pr⟩ = evOk1 (L.ev ++ [e]) L.ev.length := by
  obtain ⟨⟨h1, h2⟩, h3, h4⟩ := mayL_iff.1 h
  have ht : (L.ev ++ [e]).take L.ev.length = L.ev := by simp
  have hk : ∀ k, k < L.ev.length → evOk1 (L.ev ++ [e]) k = true := fun k hk => by
    have := evOk1_take (L := L.ev ++ [e]) hk
    rw [ht] at this
    rw [← this]; exact h3 k hk
  have hn : (L.ev ++ [e]).length = L.ev.length + 1 := by simp
  rw [Bool.eq_iff_iff]
  constructor
  · intro hm
    exact (mayL_iff.1 hm).2.1 L.ev.length (by show _ < (L.ev ++ [e]).length; omega)
  · intro ho
    refine mayL_iff.2 ⟨⟨by show (L.ev ++ [e]).length ≤ _; omega, h2⟩, fun k hk' => ?_, fun i hi => ?_⟩
    · show evOk1 (L.ev ++ [e]) k = true
      have hk2 : k < (L.ev ++ [e]).length := hk'
      by_cases e0 : k = L.ev.length
      · rw [e0]; exact ho
      · exact hk k (by omega)
    · show prOk (L.ev ++ [e]).length (prn L.pr i) = true
      have h5 := h4 i hi
      rw [hn]
      unfold prOk at h5 ⊢
      simp only [decide_eq_true_eq] at h5 ⊢
      omega
theorem evn_snoc (L : List Ev) (e : Ev) : evn (L ++ [e]) L.length = e := by simp [evn]
theorem more_A {L : Lg} (h : mayL L = true) (hl : L.ev.length ≤ 999) {a : Int} (h0 : 0 ≤ a) (h1 : a ≤ 63) : mayL ⟨L.ev ++ [evA a], L.pr⟩ = true := by
  rw [mayL_snoc h hl]
  unfold evOk1 evReads
  rw [evn_snoc]
  have h2 : a < 64 := by omega
  simp [evA, evFields, h0, h2]
theorem more_B {L : Lg} (h : mayL L = true) (hl : L.ev.length ≤ 999) {a : Int} (h0 : 0 ≤ a) (h1 : a ≤ 63) (x : UInt8) : mayL ⟨L.ev ++ [evB a x], L.pr⟩ = true := by
  rw [mayL_snoc h hl]
  unfold evOk1 evReads
  rw [evn_snoc]
  have h2 : a < 64 := by omega
  simp [evB, evFields, rdsB, wrsB, h0, h2]
theorem more_C {L : Lg} (h : mayL L = true) (hl : L.ev.length ≤ 999) {a : Int} (h0 : 0 ≤ a) (h1 : a ≤ 63) (x : UInt8) : mayL ⟨L.ev ++ [evC a x (-1)], L.pr⟩ = decide (x = 0) := by
  rw [mayL_snoc h hl]
  unfold evOk1 evReads evRead1
  rw [evn_snoc]
  have h2 : a < 64 := by omega
  simp [evC, evFields, rdsB, wrsB, List.range, List.range.loop, h0, h2]
theorem more_D {L : Lg} (h : mayL L = true) (hl : L.ev.length ≤ 999) {a : Int} (h0 : 0 ≤ a) (h1 : a ≤ 63) (x : UInt8) : mayL ⟨L.ev ++ [evC a x L.ev.length], L.pr⟩ = false := by
  rw [mayL_snoc h hl]
  unfold evOk1 evReads evRead1
  rw [evn_snoc]
  have h2 : ¬ ((L.ev.length : Int) = -1) := by omega
  simp [evC, List.range, List.range.loop, h2]
end Go.Ren
