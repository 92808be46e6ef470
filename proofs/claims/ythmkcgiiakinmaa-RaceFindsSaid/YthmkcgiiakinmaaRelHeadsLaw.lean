/-
  RelHeads, RelEdges, the plain laws: happens-before of a head, and of a log with a pair more. No condition.
-/
import Derived.Test.YthmkcgiiakinmaaRelTool
import Derived.Test.YthmkcgiiakinmaaEvHeadsLaw
namespace Go.Ren
set_option linter.unusedVariables false
theorem head_evn' {L : Lg} {n : Int} {i : Nat} (hi : i < headN L n) : evn (headL L n).ev i = evn L.ev i := head_evn (by rw [head_evlen]; exact hi)
theorem head_syn {L : Lg} {n : Int} {a b : Nat} (ha : a < headN L n) (hb : b < headN L n) : synB (headL L n) a b = synB L a b := by
  unfold synB synE fromB
  rw [head_evn' ha, head_evn' hb]
  congr 1
  rw [Bool.eq_iff_iff, List.contains_iff_mem, List.contains_iff_mem]
  unfold headL
  simp only [List.mem_filter]
  constructor
  · exact fun h => h.1
  · exact fun h => ⟨h, by unfold inHead; rw [decide_eq_true_eq]; dsimp only; omega⟩
theorem head_step {L : Lg} {n : Int} {a b : Nat} (hb : b < headN L n) : stepB (headL L n) a b = stepB L a b := by
  have hle := headN_le L n
  unfold stepB
  rw [head_evlen]
  by_cases hab : a < b
  · rw [head_syn (by omega) hb, head_evn' hb, head_evn' (by omega)]
    simp [hab, hb]
    omega
  · simp [hab]
theorem head_hb {L : Lg} {n : Int} {a b : Nat} (hb : b < headN L n) : hbB (headL L n) a b = hbB L a b := by
  rw [Bool.eq_iff_iff]
  constructor
  · intro h
    exact (hbB_least (L := headL L n) (R := fun a b => hbB L a b = true) (fun a b e => hbB_step (by rw [← head_step (by have := (stepB_lt _ _ e).2; rwa [head_evlen] at this)]; exact e)) (fun a x b => hbB_trans) a b) h
  · intro h
    exact (hbB_least (L := L) (R := fun a b => a < b ∧ (b < headN L n → hbB (headL L n) a b = true)) (fun a b e => ⟨(stepB_lt _ _ e).1, fun hb => hbB_step (by rw [head_step hb]; exact e)⟩)
      (fun a x b h1 h2 => ⟨by omega, fun hb => hbB_trans (h1.2 (by omega)) (h2.2 hb)⟩) a b h).2 hb
/-- A pair more. -/
def pairL (L : Lg) (a b : Nat) : Lg := ⟨L.ev, L.pr ++ [((a : Int), (b : Int))]⟩
theorem pair_may {L : Lg} (h : mayL L = true) (hl : L.pr.length ≤ 999) {a b : Nat} (hab : a < b) (hb : b < L.ev.length) : mayL (pairL L a b) = true := by
  obtain ⟨⟨h1, h2⟩, h3, h4⟩ := mayL_iff.1 h
  refine mayL_iff.2 ⟨⟨h1, by simp [pairL]; omega⟩, h3, fun i hi => ?_⟩
  simp only [pairL, List.length_append, List.length_singleton] at hi ⊢
  by_cases e : i < L.pr.length
  · rw [Go.Proofs.Ythmkcgiiakinmaa.prn_snoc_lt e]; exact h4 i e
  · obtain rfl : i = L.pr.length := by omega
    rw [Go.Proofs.Ythmkcgiiakinmaa.prn_snoc]
    unfold prOk
    simp only [decide_eq_true_eq]
    omega
theorem pair_syn {L : Lg} {a b x y : Nat} : synB (pairL L a b) x y = (synB L x y || (decide (x = a) && decide (y = b))) := by
  unfold synB
  rw [Bool.or_assoc]
  congr 1
  unfold pairL
  rw [Bool.eq_iff_iff]
  simp only [List.contains_iff_mem, List.mem_append, List.mem_singleton, Prod.mk.injEq, Int.ofNat_inj, Bool.or_eq_true, Bool.and_eq_true, decide_eq_true_eq]
theorem pair_step {L : Lg} {a b : Nat} (hab : a < b) (hb : b < L.ev.length) (x y : Nat) : stepB (pairL L a b) x y = true ↔ stepB L x y = true ∨ (x = a ∧ y = b) := by
  unfold stepB
  rw [pair_syn]
  show (decide (x < y) && decide (y < L.ev.length) && (decide ((evn L.ev x).ag = (evn L.ev y).ag) || (synB L x y || (decide (x = a) && decide (y = b))))) = true ↔ _
  simp only [Bool.and_eq_true, Bool.or_eq_true, decide_eq_true_eq]
  constructor
  · rintro ⟨h1, h2 | h2 | h2⟩
    · exact .inl ⟨h1, .inl h2⟩
    · exact .inl ⟨h1, .inr h2⟩
    · exact .inr h2
  · rintro (⟨h1, h2 | h2⟩ | ⟨rfl, rfl⟩)
    · exact ⟨h1, .inl h2⟩
    · exact ⟨h1, .inr (.inl h2)⟩
    · exact ⟨⟨hab, hb⟩, .inr (.inr ⟨rfl, rfl⟩)⟩
theorem pair_sub {L : Lg} {a b : Nat} (hab : a < b) (hb : b < L.ev.length) {x y : Nat} (h : hbB L x y = true) : hbB (pairL L a b) x y = true :=
  hbB_least (L := L) (R := fun x y => hbB (pairL L a b) x y = true) (fun x y e => hbB_step ((pair_step hab hb x y).2 (.inl e))) (fun _ _ _ => hbB_trans) x y h
theorem pair_hb {L : Lg} {a b : Nat} (hab : a < b) (hb : b < L.ev.length) (x y : Nat) : hbB (pairL L a b) x y = (hbB L x y || ((decide (x = a) || hbB L x a) && (decide (y = b) || hbB L b y))) := by
  rw [Bool.eq_iff_iff]
  simp only [Bool.or_eq_true, Bool.and_eq_true, decide_eq_true_eq]
  constructor
  · intro h
    refine hbB_least (L := pairL L a b) (R := fun x y => hbB L x y = true ∨ ((x = a ∨ hbB L x a = true) ∧ (y = b ∨ hbB L b y = true))) (fun x y e => ?_) (fun x z y h1 h2 => ?_) x y h
    · rcases (pair_step hab hb x y).1 e with e | ⟨rfl, rfl⟩
      · exact .inl (hbB_step e)
      · exact .inr ⟨.inl rfl, .inl rfl⟩
    · rcases h1 with h1 | ⟨h1, h3⟩
      · rcases h2 with h2 | ⟨h2, h4⟩
        · exact .inl (hbB_trans h1 h2)
        · refine .inr ⟨.inr ?_, h4⟩
          rcases h2 with rfl | h2
          · exact h1
          · exact hbB_trans h1 h2
      · rcases h2 with h2 | ⟨h2, h4⟩
        · refine .inr ⟨h1, .inr ?_⟩
          rcases h3 with rfl | h3
          · exact h2
          · exact hbB_trans h3 h2
        · exact .inr ⟨h1, h4⟩
  · have hs : hbB (pairL L a b) a b = true := hbB_step ((pair_step hab hb a b).2 (.inr ⟨rfl, rfl⟩))
    rintro (h | ⟨h1, h2⟩)
    · exact pair_sub hab hb h
    · have e1 : hbB (pairL L a b) x b = true := by
        rcases h1 with rfl | h1
        · exact hs
        · exact hbB_trans (pair_sub hab hb h1) hs
      rcases h2 with rfl | h2
      · exact e1
      · exact hbB_trans e1 (pair_sub hab hb h2)
end Go.Ren
