/-
  How an argument of any shape (slices, structs, arrays, nested) is opened to its cells, once for all. No condition.
-/
import Derived.Test.YtnnciakdeoopaaaFrame
namespace Go.Ren
open Go.ChangeShapes Go.WideShapes Go.ChangeAt Go.RowKit Go.Deep

/-- What a type's values are made of. A struct: 'st (fcons cells shape (.. fnil))'. -/
inductive Sh where
  | i64 | u8 | bool
  | sl (sz : Nat) (s : Sh)
  | arr (n sz : Nat) (s : Sh)
  | st (s : Sh)
  | fcons (k : Nat) (s r : Sh)
  | fnil

/-- Which cells hold a value of the shape. -/
def Sh.Has (w : World) : Sh → List Value → Prop
  | .i64, cs => ∃ x, cs = [.int .i64 x] ∧ I64 x
  | .u8, cs => ∃ x : UInt8, cs = [bv x]
  | .bool, cs => ∃ b, cs = [.bool b]
  | .sl sz s, cs => ∃ v n xs, cs = [v] ∧ Sl w v sz n xs ∧ ∀ i, i < n → s.Has w ((xs.drop (i * sz)).take sz)
  | .arr n sz s, cs => cs.length = n * sz ∧ ∀ i, i < n → s.Has w ((cs.drop (i * sz)).take sz)
  | .st s, cs => s.Has w cs
  | .fcons k s r, cs => s.Has w (cs.take k) ∧ r.Has w (cs.drop k)
  | .fnil, cs => cs = []

/-- Does a type fit a shape? -/
def Sh.fits (P : Program) : Sh → TypeId ⊕ (List Field × Nat × Nat) → Bool
  | .i64, .inl t => match P.underlying t with | some (.int .i64) => true | _ => false
  | .u8, .inl t => match P.underlying t with | some (.int .u8) => true | _ => false
  | .bool, .inl t => match P.underlying t with | some .bool => true | _ => false
  | .sl sz s, .inl t => match P.underlying t with | some (.slice e) => P.cellsOf e == sz && 0 < sz && s.fits P (.inl e) | _ => false
  | .arr n sz s, .inl t => match P.underlying t with | some (.array m e) => m == n && P.cellsOf e == sz && P.cellsOf t == n * sz && s.fits P (.inl e) | _ => false
  | .st s, .inl t => match P.underlying t with | some (.struct fs) => s.fits P (.inr (fs.toList, 0, P.cellsOf t)) | _ => false
  | .fnil, .inr ([], off, all) => off == all
  | .fcons k s r, .inr (f :: fs, off, all) => f.offset == off && P.cellsOf f.type == k && s.fits P (.inl f.type) && r.fits P (.inr (fs, off + k, all))
  | _, _ => false

section
variable {H : Type} {enc : TypeId × Value → H} {P : Program} {w : World} {base : Nat} {spare : Nat → Bool} {held : Bool}

theorem drop_take_range {α : Type} (f : Nat → α) (n sz i : Nat) (hi : i < n) : (((List.range (n * sz)).map f).drop (i * sz)).take sz = (List.range sz).map fun j => f (i * sz + j) := by
  have h2 : (i + 1) * sz ≤ n * sz := Nat.mul_le_mul_right _ hi
  have h3 : (i + 1) * sz = i * sz + sz := by rw [Nat.add_mul, Nat.one_mul]
  apply List.ext_getElem?
  intro j
  by_cases hj : j < sz
  · rw [List.getElem?_take, if_pos hj, List.getElem?_drop]
    simp [show i * sz + j < n * sz by omega, hj]
  · rw [List.getElem?_take, if_neg hj]
    simp [hj]

theorem Sh.open_ : ∀ (sh : Sh),
    (∀ (t : TypeId) (cs : List Value) (fuel : Nat) (x : DataW H × List MemPlace), sh.fits P (.inl t) = true → DataW.trod enc P w base spare held fuel t cs = some x → sh.Has w cs) ∧
    (∀ (fs : List Field) (off all : Nat) (cs : List Value), sh.fits P (.inr (fs, off, all)) = true → cs.length = all → (∀ f ∈ fs, ∃ n y, DataW.trod enc P w base spare held n f.type ((cs.drop f.offset).take (P.cellsOf f.type)) = some y) → sh.Has w (cs.drop off)) := by
  intro sh
  induction sh with
  | i64 =>
    refine ⟨fun t cs fuel x hf h => ?_, fun fs off all cs hf => by simp [Sh.fits] at hf⟩
    simp only [Sh.fits] at hf
    split at hf
    case h_2 => cases hf
    case h_1 hu =>
      obtain ⟨y, rfl, _, hw⟩ := DataW.trod_int hu h
      exact ⟨y, rfl, i64_wf hw⟩
  | u8 =>
    refine ⟨fun t cs fuel x hf h => ?_, fun fs off all cs hf => by simp [Sh.fits] at hf⟩
    simp only [Sh.fits] at hf
    split at hf
    case h_2 => cases hf
    case h_1 hu =>
      obtain ⟨y, rfl, _, hw⟩ := DataW.trod_int hu h
      have h2 := u8_wf hw
      refine ⟨UInt8.ofNat y.toNat, ?_⟩
      simp only [bv]
      rw [UInt8.toNat_ofNat_of_lt' (by show y.toNat < 256; omega)]
      congr 2
      omega
  | bool =>
    refine ⟨fun t cs fuel x hf h => ?_, fun fs off all cs hf => by simp [Sh.fits] at hf⟩
    simp only [Sh.fits] at hf
    split at hf
    case h_2 => cases hf
    case h_1 hu =>
      obtain ⟨y, rfl, _⟩ := DataW.trod_bool hu h
      exact ⟨y, rfl⟩
  | sl sz s ih =>
    refine ⟨fun t cs fuel x hf h => ?_, fun fs off all cs hf => by simp [Sh.fits] at hf⟩
    simp only [Sh.fits] at hf
    split at hf
    case h_2 => cases hf
    case h_1 e hu =>
      simp only [Bool.and_eq_true, beq_iff_eq, decide_eq_true_eq] at hf
      obtain ⟨⟨hc, hz⟩, hs⟩ := hf
      rcases open_slice hu h with ⟨rfl, _⟩ | ⟨a, len, cap, m, n, D, Pl, rfl, _, hl, hm, hmm, _, hi⟩
      · exact ⟨_, 0, [], rfl, ⟨⟨none, 0, rfl, Nat.le_refl _, by simp [maxLen], fun _ => ⟨rfl, rfl⟩⟩, by simp, fun j u hj => by simp at hj⟩, fun i hi => by omega⟩
      · have hlm : len ≤ m := by rw [hmm]; split <;> omega
        rw [hc] at hi
        have key : ∀ i, i < len → ∃ cs', cs'.length = sz ∧ (∀ j, j < sz → w.cell? (a.add (i * sz + j)) = cs'[j]?) ∧ s.Has w cs' := by
          intro i him
          obtain ⟨cs', h1, h2⟩ := hi i (by omega)
          obtain ⟨_, h3, h4⟩ := World.cells?_some h1
          exact ⟨cs', h3, fun j hj => by rw [← h4 j hj, Go.Deep.add_add], ih.1 e cs' n _ hs h2⟩
        have hcl : ∀ i, i < len → ∀ j, j < sz → ∃ u, w.cell? (a.add (i * sz + j)) = some u := by
          intro i him j hj
          obtain ⟨cs', h3, h4, _⟩ := key i him
          exact ⟨cs'[j]'(by omega), by rw [h4 j hj]; exact List.getElem?_eq_getElem _⟩
        refine ⟨_, len, (List.range (len * sz)).map fun j => (w.cell? (a.add j)).getD undef, rfl, ⟨⟨some a, cap, rfl, hl, hm, fun h => by cases h⟩, by simp, fun j u hj => ?_⟩, fun i him => ?_⟩
        · rw [List.getElem?_map] at hj
          obtain ⟨k, hk, rfl⟩ := Option.map_eq_some_iff.1 hj
          have hjl : j < len * sz := by
            rcases Nat.lt_or_ge j (len * sz) with h | h
            · exact h
            · rw [List.getElem?_eq_none (by simpa using h)] at hk; cases hk
          rw [List.getElem?_range hjl] at hk
          obtain rfl := Option.some.inj hk
          have hdiv : j / sz < len := Nat.div_lt_of_lt_mul (by rw [Nat.mul_comm]; exact hjl)
          obtain ⟨u, hu'⟩ := hcl (j / sz) hdiv (j % sz) (Nat.mod_lt _ hz)
          have e1 : j / sz * sz + j % sz = j := by rw [Nat.mul_comm]; exact Nat.div_add_mod j sz
          rw [e1] at hu'
          show w.cell? (a.add j) = _
          rw [hu']; rfl
        · rw [drop_take_range _ _ _ _ him]
          obtain ⟨cs', h3, h4, h5⟩ := key i him
          have e : (List.range sz).map (fun j => (w.cell? (a.add (i * sz + j))).getD undef) = cs' := by
            apply List.ext_getElem?
            intro j
            by_cases hj : j < sz
            · rw [List.getElem?_map, List.getElem?_range hj, Option.map_some, h4 j hj, List.getElem?_eq_getElem (by omega)]; rfl
            · rw [List.getElem?_eq_none (by simpa using hj), List.getElem?_eq_none (by omega)]
          rw [e]; exact h5
  | arr n sz s ih =>
    refine ⟨fun t cs fuel x hf h => ?_, fun fs off all cs hf => by simp [Sh.fits] at hf⟩
    simp only [Sh.fits] at hf
    split at hf
    case h_2 => cases hf
    case h_1 m e hu =>
      simp only [Bool.and_eq_true, beq_iff_eq] at hf
      obtain ⟨⟨⟨rfl, hc⟩, hct⟩, hs⟩ := hf
      obtain ⟨xs, k, _, _, hl, hxl, hi⟩ := DataW.trod_array hu h
      refine ⟨by omega, fun i him => ?_⟩
      have := hi i him
      rw [hc, List.getElem?_eq_getElem (by omega)] at this
      exact ih.1 e _ _ _ hs this
  | st s ih =>
    refine ⟨fun t cs fuel x hf h => ?_, fun fs off all cs hf => by simp [Sh.fits] at hf⟩
    simp only [Sh.fits] at hf
    split at hf
    case h_2 => cases hf
    case h_1 fs hu =>
      obtain ⟨xs, k, _, _, hl, hxl, hi⟩ := DataW.trod_struct hu h
      have := ih.2 fs.toList 0 (P.cellsOf t) cs hf hl (fun f hm => by
        obtain ⟨i, hi'⟩ := List.getElem?_of_mem hm
        have h1 := hi i f (by simpa using hi')
        have hlt : i < fs.size := by
          rcases Nat.lt_or_ge i fs.size with h | h
          · exact h
          · rw [List.getElem?_eq_none (by simpa using h)] at hi'; cases hi'
        rw [List.getElem?_eq_getElem (by omega)] at h1
        exact ⟨_, _, h1⟩)
      exact (by simpa using this : s.Has w cs)
  | fcons k s r ihs ihr =>
    refine ⟨fun t cs fuel x hf h => by simp [Sh.fits] at hf, fun fs off all cs hf hl h => ?_⟩
    cases fs with
    | nil => simp [Sh.fits] at hf
    | cons f fs =>
      simp only [Sh.fits, Bool.and_eq_true, beq_iff_eq] at hf
      obtain ⟨⟨⟨h1, h2⟩, h3⟩, h4⟩ := hf
      obtain ⟨n, y, hy⟩ := h f (by simp)
      rw [h1, h2] at hy
      refine ⟨ihs.1 _ _ _ _ h3 hy, ?_⟩
      rw [List.drop_drop]
      exact ihr.2 fs (off + k) all cs h4 hl (fun f' hm => h f' (by simp [hm]))
  | fnil =>
    refine ⟨fun t cs fuel x hf h => by simp [Sh.fits] at hf, fun fs off all cs hf hl h => ?_⟩
    cases fs with
    | cons f fs => simp [Sh.fits] at hf
    | nil =>
      simp only [Sh.fits, beq_iff_eq] at hf
      exact List.drop_eq_nil_of_le (by omega)

theorem Sh.open_slice_arg {sz : Nat} {s : Sh} {T E : TypeId} {v : Value} {d : DataW H} {ps : List MemPlace} {r : Reach} {b0 : Nat} (hu : P.underlying T = some (.slice E)) (hf : (Sh.sl sz s).fits P (.inl T) = true) (hval : Value.okWide P w r b0 T v)
    (h : DataW.Trod enc P w base spare held T v d ps) : (Sh.sl sz s).Has w [v] := by
  obtain ⟨a, len, cap, rfl⟩ := okWide_slice hu hval
  obtain ⟨fuel, h⟩ := h
  exact ((Sh.open_ (.sl sz s)).1 _ _ _ _ hf h)
end

/-- A slice of shapes as a list of what a decoder reads from each. -/
theorem Sh.dec {w : World} {sz : Nat} {s : Sh} {v : Value} {α : Type} {R : α → List Value → Prop} (h : (Sh.sl sz s).Has w [v]) (hd : ∀ cs, s.Has w cs → ∃ a, R a cs) :
    ∃ (l : List α) (xs : List Value), Sl w v sz l.length xs ∧ ∀ i (hi : i < l.length), R l[i] ((xs.drop (i * sz)).take sz) := by
  obtain ⟨v', n, xs, hv, hs, hi⟩ := h
  obtain rfl := List.singleton_inj.1 hv
  have hc : ∀ i : Fin n, ∃ a, R a ((xs.drop (i * sz)).take sz) := fun i => hd _ (hi i.1 i.2)
  refine ⟨List.ofFn fun i => Classical.choose (hc i), xs, by simpa using hs, fun i hi' => ?_⟩
  have hin : i < n := by simpa using hi'
  rw [List.getElem_ofFn]
  exact Classical.choose_spec (hc ⟨i, hin⟩)
theorem Sh.bytes {w : World} {cs : List Value} (h : (Sh.sl 1 .u8).Has w cs) : ∃ v l, cs = [v] ∧ BytesAt w v l := by
  obtain ⟨v, n, xs, rfl, h1, h2⟩ := h
  obtain ⟨l, xs', hs, hi⟩ := Sh.dec (R := fun (a : UInt8) cs => cs = [bv a]) (w := w) (s := .u8) (sz := 1) (v := v) ⟨v, n, xs, rfl, h1, h2⟩ (fun cs h => h)
  refine ⟨v, l, rfl, ?_⟩
  have e : xs' = l.map bv := by
    apply List.ext_getElem?
    intro j
    have hlen := hs.len
    by_cases hj : j < l.length
    · have := congrArg (fun z => z[0]?) (hi j hj)
      simp at this
      rw [this]; simp [hj]
    · rw [List.getElem?_eq_none (by omega), List.getElem?_eq_none (by simpa using hj)]
  unfold BytesAt
  rw [← e]; exact hs
theorem Sh.ints {w : World} {cs : List Value} (h : (Sh.sl 1 .i64).Has w cs) : ∃ v l, cs = [v] ∧ IntsAt w v l := by
  obtain ⟨v, n, xs, rfl, h1, h2⟩ := h
  obtain ⟨l, xs', hs, hi⟩ := Sh.dec (R := fun (a : Int) cs => cs = [iv a] ∧ I64 a) (w := w) (s := .i64) (sz := 1) (v := v) ⟨v, n, xs, rfl, h1, h2⟩ (fun cs ⟨x, h, hx⟩ => ⟨x, h, hx⟩)
  refine ⟨v, l, rfl, ?_, fun x hx => ?_⟩
  · have e : xs' = l.map iv := by
      apply List.ext_getElem?
      intro j
      have hlen := hs.len
      by_cases hj : j < l.length
      · have := congrArg (fun z => z[0]?) (hi j hj).1
        simp at this
        rw [this]; simp [hj]
      · rw [List.getElem?_eq_none (by omega), List.getElem?_eq_none (by simpa using hj)]
    rw [← e]; exact hs
  · obtain ⟨i, hi', rfl⟩ := List.getElem_of_mem hx
    exact (hi i hi').2
end Go.Ren
