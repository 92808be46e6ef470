/-
  ModelOrders, the plain law: right orders. No condition.
-/
import Derived.Test.YthmkcgiiakinmaaModLaws
namespace Go.Ren
set_option linter.unusedVariables false
theorem posK_hit {l : List Int} {i j k : Nat} (hj : j < i) (h : l.getD j (-1) = (k : Int)) (hn : ∀ m, m < j → l.getD m (-1) ≠ (k : Int)) : posK l i k = j :=
  fstN_hit hj (fun m hm => by simpa using hn m hm) (by simpa using h)
theorem posK_none {l : List Int} {i k : Nat} (hn : ∀ m, m < i → l.getD m (-1) ≠ (k : Int)) : posK l i k = -1 := fstN_none fun m hm => by simpa using hn m hm
theorem posK_neg {l : List Int} {i k : Nat} (h : posK l i k = -1) : ∀ m, m < i → l.getD m (-1) ≠ (k : Int) := by
  unfold posK at h
  rcases fstN_cases (fun j => l.getD j (-1) == (k : Int)) i with ⟨_, h2⟩ | ⟨c, h1, h2, _⟩
  · exact fun m hm => by simpa using h2 m hm
  · omega
/-- An order of n numbers: each once. -/
structure OrdOf (n : Nat) (l : List Int) : Prop where
  len : l.length = n
  rng : ∀ i, i < n → ∃ k : Nat, l.getD i (-1) = (k : Int) ∧ k < n
  inj : ∀ i j, i < n → j < n → l.getD i (-1) = l.getD j (-1) → i = j
theorem plOk_ord {n : Nat} {l : List Int} : plOk n l = true ↔ OrdOf n l := by
  unfold plOk
  rw [Bool.and_eq_true, decide_eq_true_eq, allN_iff]
  constructor
  · rintro ⟨h1, h2⟩
    have hs : ∀ i, i < n → (0 ≤ l.getD i (-1) ∧ l.getD i (-1) < (n : Int)) ∧ posK l i (l.getD i (-1)).toNat = -1 := fun i hi => by
      have := h2 i (by omega)
      unfold plStep at this
      rwa [Bool.and_eq_true, decide_eq_true_eq, decide_eq_true_eq] at this
    have hlt : ∀ i j, i < j → j < n → l.getD i (-1) ≠ l.getD j (-1) := fun i j hij hj e => by
      have h3 := hs j hj
      have := posK_neg h3.2 i hij
      rw [Int.toNat_of_nonneg h3.1.1] at this
      exact this e
    refine ⟨h1, fun i hi => ⟨(l.getD i (-1)).toNat, by have := (hs i hi).1; omega, by have := (hs i hi).1; omega⟩, fun i j hi hj e => ?_⟩
    rcases Nat.lt_trichotomy i j with h | h | h
    · exact absurd e (hlt i j h hj)
    · exact h
    · exact absurd e.symm (hlt j i h hi)
  · rintro ⟨h1, h2, h3⟩
    refine ⟨h1, fun i hi => ?_⟩
    obtain ⟨k, hk, hkn⟩ := h2 i (by omega)
    unfold plStep
    rw [Bool.and_eq_true, decide_eq_true_eq, decide_eq_true_eq, hk, Int.toNat_natCast]
    refine ⟨by omega, posK_none fun m hm e => ?_⟩
    have := h3 m i (by omega) (by omega) (by rw [e, hk])
    omega
theorem nodup_len {l : List Nat} : ∀ {m : List Nat}, l.Nodup → (∀ x ∈ l, x ∈ m) → l.length ≤ m.length := by
  induction l with
  | nil => intro m _ _; simp
  | cons x t ih =>
    intro m hn hs
    rw [List.nodup_cons] at hn
    have hx := hs x (List.mem_cons_self ..)
    have h1 := ih (m := m.erase x) hn.2 (fun y hy => by
      refine (List.mem_erase_of_ne (fun e => ?_)).2 (hs y (List.mem_cons_of_mem _ hy))
      subst e; exact hn.1 hy)
    have h2 := List.length_erase_of_mem hx
    have h3 := List.length_pos_of_mem hx
    rw [List.length_cons]
    omega
/-- Each number stands somewhere. -/
theorem OrdOf.at_ {n : Nat} {l : List Int} (h : OrdOf n l) {a : Nat} (ha : a < n) : ∃ i, i < n ∧ l.getD i (-1) = (a : Int) := by
  apply Classical.byContradiction
  intro hno
  have hno' : ∀ i, i < n → l.getD i (-1) ≠ (a : Int) := fun i hi e => hno ⟨i, hi, e⟩
  have hd : (a :: (List.range n).map fun i => (l.getD i (-1)).toNat).Nodup := by
    rw [List.nodup_cons]
    constructor
    · intro hm
      rw [List.mem_map] at hm
      obtain ⟨i, hi, e⟩ := hm
      rw [List.mem_range] at hi
      obtain ⟨k, hk, _⟩ := h.rng i hi
      rw [hk, Int.toNat_natCast] at e
      exact hno' i hi (by rw [hk, e])
    · rw [List.nodup_iff_pairwise_ne, List.pairwise_map]
      refine List.Pairwise.imp_of_mem (fun {i j} hi hj hij e => ?_) (List.nodup_range (n := n))
      rw [List.mem_range] at hi hj
      obtain ⟨k, hk, _⟩ := h.rng i hi
      obtain ⟨k', hk', _⟩ := h.rng j hj
      rw [hk, hk', Int.toNat_natCast, Int.toNat_natCast] at e
      exact hij (h.inj i j hi hj (by rw [hk, hk', e]))
  have := nodup_len (m := List.range n) hd (fun x hx => by
    rw [List.mem_cons] at hx
    rw [List.mem_range]
    rcases hx with rfl | hx
    · exact ha
    · rw [List.mem_map] at hx
      obtain ⟨i, hi, e⟩ := hx
      rw [List.mem_range] at hi
      obtain ⟨k, hk, hkn⟩ := h.rng i hi
      rw [hk, Int.toNat_natCast] at e
      omega)
  simp at this
  omega
theorem OrdOf.pos {n : Nat} {l : List Int} (h : OrdOf n l) {i a : Nat} (hi : i < n) (e : l.getD i (-1) = (a : Int)) : posI l a = i := by
  unfold posI
  rw [h.len]
  exact posK_hit hi e fun m hm e2 => by have := h.inj m i (by omega) hi (by rw [e, e2]); omega
/-- Does nothing that stands ahead of number i come behind it? -/
def noBack (L : Lg) (l : List Int) (i : Nat) : Bool := allN (fun k => !hasB L.ev.length (hbB L) (l.getD i (-1)) (l.getD k (-1))) i
theorem ord_iff {L : Lg} (hm : mayL L = true) {l : List Int} : ordB L l = true ↔ OrdOf L.ev.length l ∧ allN (noBack L l) L.ev.length = true := by
  unfold ordB
  rw [hm, Bool.true_and, Bool.and_eq_true, plOk_ord, List.all_eq_true, allN_iff]
  refine and_congr_right fun ho => ⟨fun h i hi => allN_iff.2 fun k hk => ?_, fun h p hp => ?_⟩
  · obtain ⟨a, ea, ha⟩ := ho.rng i hi
    obtain ⟨b, eb, hb⟩ := ho.rng k (by omega)
    rw [ea, eb, hasB_nat ha hb]
    cases hh : hbB L a b with
    | false => rfl
    | true =>
      have := h ((a : Int), (b : Int)) (mem_listR.2 ⟨a, b, rfl, ha, hb, hh⟩)
      unfold ordP at this
      dsimp only at this
      rw [Int.toNat_natCast, Int.toNat_natCast, ho.pos hi ea, ho.pos (by omega) eb, decide_eq_true_eq] at this
      omega
  · obtain ⟨a, b, rfl, ha, hb, hh⟩ := mem_listR.1 hp
    obtain ⟨i, hi, ea⟩ := ho.at_ ha
    obtain ⟨j, hj, eb⟩ := ho.at_ hb
    unfold ordP
    dsimp only
    rw [Int.toNat_natCast, Int.toNat_natCast, ho.pos hi ea, ho.pos hj eb, decide_eq_true_eq]
    rcases Nat.lt_trichotomy i j with h1 | h1 | h1
    · omega
    · subst h1
      have := (hbB_lt hh).1
      omega
    · have h2 := allN_iff.1 (h i hi) j h1
      rw [ea, eb, hasB_nat ha hb, hh] at h2
      cases h2
/-- Two that stand side by side change places. -/
def swapL (l : List Int) (t : Nat) : List Int := (l.set t (l.getD (t + 1) (-1))).set (t + 1) (l.getD t (-1))
theorem swap_get {l : List Int} {t : Nat} (ht : t + 1 < l.length) (i : Nat) (hi : i < l.length) : (swapL l t).getD i (-1) = l.getD (if i = t then t + 1 else if i = t + 1 then t else i) (-1) := by
  unfold swapL
  simp only [List.getD_eq_getElem?_getD, List.getElem?_set, List.length_set]
  by_cases h1 : i = t
  · subst h1
    simp [hi]
  · by_cases h2 : i = t + 1
    · subst h2
      simp [hi]
    · have h3 : ¬ t + 1 = i := fun e => h2 e.symm
      have h4 : ¬ t = i := fun e => h1 e.symm
      simp [h1, h2, h3, h4]
theorem swap_ord {L : Lg} (hm : mayL L = true) {l : List Int} (h : ordB L l = true) {t : Nat} (ht : t + 1 < L.ev.length) (hn : hasB L.ev.length (hbB L) (l.getD t (-1)) (l.getD (t + 1) (-1)) = false) : ordB L (swapL l t) = true := by
  obtain ⟨ho, hb⟩ := (ord_iff hm).1 h
  rw [allN_iff] at hb
  have hlen := ho.len
  have hg := fun i (hi : i < L.ev.length) => swap_get (l := l) (t := t) (by omega) i (by omega)
  refine (ord_iff hm).2 ⟨⟨by simp [swapL, hlen], fun i hi => ?_, fun i j hi hj e => ?_⟩, allN_iff.2 fun i hi => allN_iff.2 fun k hk => ?_⟩
  · rw [hg i hi]
    refine ho.rng _ ?_
    split
    · omega
    · split <;> omega
  · rw [hg i hi, hg j hj] at e
    have := ho.inj _ _ (by split; omega; split <;> omega) (by split; omega; split <;> omega) e
    split at this <;> split at this <;> (try split at this) <;> (try split at this) <;> omega
  · have hk' : k < L.ev.length := by omega
    rw [hg i hi, hg k hk']
    have key : ∀ x y, y < x → x < L.ev.length → (!hasB L.ev.length (hbB L) (l.getD x (-1)) (l.getD y (-1))) = true := fun x y hxy hx => allN_iff.1 (hb x hx) y hxy
    by_cases h1 : i = t + 1 ∧ k = t
    · obtain ⟨rfl, rfl⟩ := h1
      have e1 : ¬ k + 1 = k := by omega
      rw [if_neg e1, if_pos rfl, if_pos rfl, hn]; rfl
    · refine key _ _ ?_ ?_
      · split <;> split <;> (try split) <;> (try split) <;> omega
      · split
        · omega
        · split <;> omega
end Go.Ren
