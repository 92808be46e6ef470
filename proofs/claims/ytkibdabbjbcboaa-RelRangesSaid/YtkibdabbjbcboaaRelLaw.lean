/-
  What happens before what, as a closure of steps. No condition.
-/
import Derived.Test.YtkibdabbjbcboaaRelLoop
namespace Go.Ren
set_option linter.unusedVariables false
/-- By way of events below c alone. -/
def hbW (S : Nat → Nat → Bool) : Nat → Nat → Nat → Bool
  | 0, a, b => S a b
  | c + 1, a, b => hbW S c a b || (hbW S c a c && hbW S c c b)
def stepB (L : Lg) (a b : Nat) : Bool := decide (a < b) && decide (b < L.ev.length) && (decide ((evn L.ev a).ag = (evn L.ev b).ag) || synB L a b)
def hbB (L : Lg) (a b : Nat) : Bool := hbW (stepB L) L.ev.length a b
section
variable {S : Nat → Nat → Bool} {n : Nat}
theorem hbW_lt (h : ∀ a b, S a b = true → a < b ∧ b < n) : ∀ (c a b : Nat), hbW S c a b = true → a < b ∧ b < n
  | 0, a, b, e => h a b e
  | c + 1, a, b, e => by
    unfold hbW at e
    rw [Bool.or_eq_true, Bool.and_eq_true] at e
    rcases e with e | ⟨e1, e2⟩
    · exact hbW_lt h c a b e
    · have := hbW_lt h c a c e1; have := hbW_lt h c c b e2; omega
theorem hbW_succ {c a b : Nat} (e : hbW S c a b = true) : hbW S (c + 1) a b = true := by unfold hbW; rw [e]; rfl
theorem hbW_mono {c d a b : Nat} (h : c ≤ d) (e : hbW S c a b = true) : hbW S d a b = true := by
  induction h with
  | refl => exact e
  | step _ ih => exact hbW_succ ih
theorem hbW_comp (h : ∀ a b, S a b = true → a < b ∧ b < n) : ∀ (c a x b : Nat), x < c → hbW S c a x = true → hbW S c x b = true → hbW S c a b = true
  | 0, _, _, _, hx, _, _ => absurd hx (Nat.not_lt_zero _)
  | c + 1, a, x, b, hx, e1, e2 => by
    unfold hbW at e1 e2
    rw [Bool.or_eq_true, Bool.and_eq_true] at e1 e2
    by_cases hxc : x = c
    · subst hxc
      have f1 : hbW S x a x = true := by rcases e1 with e | ⟨e, _⟩ <;> exact e
      have f2 : hbW S x x b = true := by rcases e2 with e | ⟨_, e⟩ <;> exact e
      unfold hbW; rw [f1, f2]; simp
    · have f1 : hbW S c a x = true := by
        rcases e1 with e | ⟨_, e⟩
        · exact e
        · have := hbW_lt h c c x e; omega
      rcases e2 with e | ⟨e, e'⟩
      · exact hbW_succ (hbW_comp h c a x b (by omega) f1 e)
      · have f2 := hbW_comp h c a x c (by omega) f1 e
        unfold hbW; rw [f2, e']; simp
theorem hbW_first (h : ∀ a b, S a b = true → a < b ∧ b < n) : ∀ (c a b : Nat), c ≤ n → hbW S c a b = true → S a b = true ∨ ∃ x, S a x = true ∧ hbW S n x b = true
  | 0, a, b, _, e => .inl e
  | c + 1, a, b, hc, e => by
    unfold hbW at e
    rw [Bool.or_eq_true, Bool.and_eq_true] at e
    rcases e with e | ⟨e1, e2⟩
    · exact hbW_first h c a b (by omega) e
    · rcases hbW_first h c a c (by omega) e1 with e | ⟨x, e, e3⟩
      · exact .inr ⟨c, e, hbW_mono (by omega) e2⟩
      · exact .inr ⟨x, e, hbW_comp h n x c b (by omega) e3 (hbW_mono (by omega) e2)⟩
end
theorem stepB_lt {L : Lg} (a b : Nat) (h : stepB L a b = true) : a < b ∧ b < L.ev.length := by
  unfold stepB at h
  simp only [Bool.and_eq_true, decide_eq_true_eq] at h
  exact h.1
theorem hbB_lt {L : Lg} {a b : Nat} (h : hbB L a b = true) : a < b ∧ b < L.ev.length := hbW_lt stepB_lt _ _ _ h
theorem hbB_step {L : Lg} {a b : Nat} (h : stepB L a b = true) : hbB L a b = true := hbW_mono (Nat.zero_le _) (show hbW (stepB L) 0 a b = true from h)
theorem hbB_trans {L : Lg} {a x b : Nat} (h1 : hbB L a x = true) (h2 : hbB L x b = true) : hbB L a b = true := hbW_comp stepB_lt _ a x b (hbB_lt h1).2 h1 h2
theorem hbB_first {L : Lg} {a b : Nat} (h : hbB L a b = true) : stepB L a b = true ∨ ∃ x, stepB L a x = true ∧ hbB L x b = true := hbW_first stepB_lt _ a b (Nat.le_refl _) h
/-- The least relation that has the steps and goes through. -/
theorem hbB_least {L : Lg} {R : Nat → Nat → Prop} (h1 : ∀ a b, stepB L a b = true → R a b) (h2 : ∀ a x b, R a x → R x b → R a b) : ∀ a b, hbB L a b = true → R a b := by
  have hb : ∀ c a b, hbW (stepB L) c a b = true → R a b := by
    intro c
    induction c with
    | zero => exact h1
    | succ c ih =>
      intro a b e
      unfold hbW at e
      rw [Bool.or_eq_true, Bool.and_eq_true] at e
      rcases e with e | ⟨e1, e2⟩
      · exact ih _ _ e
      · exact h2 _ _ _ (ih _ _ e1) (ih _ _ e2)
  exact fun a b => hb _ a b
/-- Row a of the set, while it is built: those below b are done. -/
def accB (L : Lg) (a b y : Nat) : Bool := synB L a y || (List.range b).any fun c => hbB L a c && (decide (y = c) || hbB L c y)
theorem accB_iff {L : Lg} {a b y : Nat} : accB L a b y = true ↔ synB L a y = true ∨ ∃ c, c < b ∧ hbB L a c = true ∧ (y = c ∨ hbB L c y = true) := by
  unfold accB
  simp only [Bool.or_eq_true, List.any_eq_true, List.mem_range, Bool.and_eq_true, decide_eq_true_eq]
theorem acc_start (L : Lg) (a y : Nat) : accB L a (a + 1) y = synB L a y := by
  rw [Bool.eq_iff_iff, accB_iff]
  constructor
  · rintro (h | ⟨c, h1, h2, _⟩)
    · exact h
    · have := hbB_lt h2; omega
  · exact .inl
theorem acc_test {L : Lg} (hm : mayL L = true) {a b : Nat} (hab : a < b) (hb : b < L.ev.length) : (decide ((evn L.ev a).ag = (evn L.ev b).ag) || accB L a b b) = hbB L a b := by
  rw [Bool.eq_iff_iff, Bool.or_eq_true, accB_iff, decide_eq_true_eq]
  constructor
  · rintro (h | h | ⟨c, h1, h2, h3⟩)
    · exact hbB_step (by unfold stepB; simp [hab, hb, h])
    · exact hbB_step (by unfold stepB; simp [hab, hb, h])
    · rcases h3 with h3 | h3
      · omega
      · exact hbB_trans h2 h3
  · intro h
    rcases hbB_first h with h | ⟨c, h1, h2⟩
    · unfold stepB at h
      simp only [Bool.and_eq_true, Bool.or_eq_true, decide_eq_true_eq] at h
      rcases h.2 with h | h
      · exact .inl h
      · exact .inr (.inl h)
    · exact .inr (.inr ⟨c, (hbB_lt h2).1, hbB_step h1, .inr h2⟩)
theorem acc_yes {L : Lg} {a b : Nat} (h : hbB L a b = true) (y : Nat) : accB L a (b + 1) y = (accB L a b y || decide (y = b) || hbB L b y) := by
  rw [Bool.eq_iff_iff]
  simp only [Bool.or_eq_true, accB_iff, decide_eq_true_eq]
  constructor
  · rintro (h1 | ⟨c, h1, h2, h3⟩)
    · exact .inl (.inl (.inl h1))
    · by_cases e : c = b
      · subst e
        rcases h3 with h3 | h3
        · exact .inl (.inr h3)
        · exact .inr h3
      · exact .inl (.inl (.inr ⟨c, by omega, h2, h3⟩))
  · rintro ((( h1 | ⟨c, h1, h2, h3⟩) | h1) | h1)
    · exact .inl h1
    · exact .inr ⟨c, by omega, h2, h3⟩
    · exact .inr ⟨b, by omega, h, .inl h1⟩
    · exact .inr ⟨b, by omega, h, .inr h1⟩
theorem acc_no {L : Lg} {a b : Nat} (h : hbB L a b = false) (y : Nat) : accB L a (b + 1) y = accB L a b y := by
  rw [Bool.eq_iff_iff]
  simp only [accB_iff]
  constructor
  · rintro (h1 | ⟨c, h1, h2, h3⟩)
    · exact .inl h1
    · by_cases e : c = b
      · subst e; rw [h] at h2; cases h2
      · exact .inr ⟨c, by omega, h2, h3⟩
  · rintro (h1 | ⟨c, h1, h2, h3⟩)
    · exact .inl h1
    · exact .inr ⟨c, by omega, h2, h3⟩
theorem acc_end {L : Lg} (hm : mayL L = true) {a y : Nat} (hy : y < L.ev.length) : accB L a L.ev.length y = hbB L a y := by
  rw [Bool.eq_iff_iff, accB_iff]
  constructor
  · rintro (h | ⟨c, h1, h2, h3⟩)
    · exact hbB_step (by unfold stepB; simp [synB_lt hm hy h, hy, h])
    · rcases h3 with h3 | h3
      · subst h3; exact h2
      · exact hbB_trans h2 h3
  · intro h
    exact .inr ⟨y, hy, h, .inl rfl⟩
/-- The whole set, while it is built: rows above a are done, row a is done below b. -/
def befB (L : Lg) (a b : Nat) (x y : Nat) : Bool := if a < x then hbB L x y else if x = a then accB L a b y else synB L x y
end Go.Ren
