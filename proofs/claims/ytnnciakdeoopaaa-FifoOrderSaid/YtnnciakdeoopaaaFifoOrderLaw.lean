/-
  The plain law of renlaw19.FifoOrder. No condition, no program.
-/
import Derived.Test.YtnnciakdeoopaaaFifoSeesLaw
namespace Go.Ren
set_option linter.unusedVariables false

def goodO (e : Ent) : Prop := 0 ≤ e.at_ ∧ e.at_ ≤ 56 ∧ 0 ≤ e.by_ ∧ 1 ≤ e.b.length ∧ e.b.length ≤ 8
instance (e : Ent) : Decidable (goodO e) := by unfold goodO; infer_instance
def zeroBlk (e : Ent) : Ent := ⟨0, e.at_, e.b, e.by_, e.tears⟩
def ord1 (room : Nat) (E : List Ent) (e : Ent) : List Ent := if goodO e then qput room E (zeroBlk e) else E
def ordE (room : Nat) (l : List Ent) : List Ent := l.foldl (ord1 room) []
theorem ordE_snoc {room : Nat} {l : List Ent} {i : Nat} (h : i < l.length) : ordE room (l.take (i + 1)) = ord1 room (ordE room (l.take i)) l[i] := by
  unfold ordE
  rw [List.take_succ_eq_append_getElem h, List.foldl_append]; rfl
theorem qputE_good {room : Nat} {E : List Ent} {e : Ent} (h : goodO e) : qputE room E (zeroBlk e) = if room ≤ E.length then 11 else 0 := by
  unfold goodO at h
  unfold qputE
  rw [if_neg (by simp only [zeroBlk]; omega)]
theorem ord1_ok {room : Nat} {E : List Ent} {e : Ent} (h : ∀ x ∈ E, In64 x ∧ 1 ≤ x.b.length) (hy : I64 e.by_) : ∀ x ∈ ord1 room E e, In64 x ∧ 1 ≤ x.b.length := by
  intro x hx
  unfold ord1 at hx
  split at hx
  · rename_i hf
    unfold goodO at hf
    unfold qput at hx
    split at hx
    · rcases List.mem_append.1 hx with h1 | h1
      · exact h x h1
      · simp at h1; subst h1; exact ⟨⟨rfl, by simp only [zeroBlk]; omega, by simp only [zeroBlk]; omega, hy⟩, by simp only [zeroBlk]; omega⟩
    · exact h x hx
  · exact h x hx
theorem ordE_ok {room : Nat} {l : List Ent} (hl : ∀ e ∈ l, I64 e.by_) : ∀ x ∈ ordE room l, In64 x ∧ 1 ≤ x.b.length := by
  unfold ordE
  have key : ∀ (l E : List Ent), (∀ e ∈ l, I64 e.by_) → (∀ x ∈ E, In64 x ∧ 1 ≤ x.b.length) → ∀ x ∈ l.foldl (ord1 room) E, In64 x ∧ 1 ≤ x.b.length := by
    intro l
    induction l with
    | nil => intro E _ h; exact h
    | cons e l ih => intro E hl h; exact ih _ (fun e' he' => hl e' (by simp [he'])) (ord1_ok h (hl e (by simp)))
  exact key l [] hl (fun x hx => by cases hx)
theorem ordE_len {room : Nat} (l : List Ent) : (ordE room l).length ≤ l.length := by
  unfold ordE
  have key : ∀ (l E : List Ent), (l.foldl (ord1 room) E).length ≤ E.length + l.length := by
    intro l
    induction l with
    | nil => intro E; simp
    | cons e l ih =>
      intro E
      have := ih (ord1 room E e)
      have h2 : (ord1 room E e).length ≤ E.length + 1 := by
        unfold ord1; split
        · unfold qput; split
          · simp
          · omega
        · omega
      simp only [List.foldl_cons, List.length_cons]; omega
  have := key l []
  simpa using this
/-- What was flushed is read. -/
theorem order_read {e : Ent} {E : List Ent} {m : List Blk} {X : List UInt8} {Y : List Int} (h : Sees (e :: E) m X Y) (h1 : 1 ≤ e.b.length) :
    bcheck (qflushM (e :: E) m) 0 e.at_ e.b.length = 0 ∧ breadB (qflushM (e :: E) m) 0 e.at_ e.b.length = e.b ∧ breadY (qflushM (e :: E) m) 0 e.at_ e.b.length = List.replicate e.b.length e.by_ := by
  obtain ⟨B, rfl, hb, hy, _, _⟩ := h.ex
  obtain ⟨g1, g2, g3, g4⟩ := h.ok e (by simp)
  have hw := (write64 hb hy (x := e.b) e.by_ g2 g3).2
  have e1 : qflushM (e :: E) [B] = [⟨layB e.at_ e.b 0 B.b, layY e.at_ e.b.length e.by_ 0 B.y⟩] := by simp only [qflushM, g1]; exact hw
  rw [e1]
  obtain ⟨a, ha⟩ := Int.eq_ofNat_of_zero_le g2
  have hc := (write64 (B := ⟨layB e.at_ e.b 0 B.b, layY e.at_ e.b.length e.by_ 0 B.y⟩) (by simp [layB_len, hb]) (by simp [layY_len, hy]) (x := e.b) 0 g2 g3).1
  refine ⟨hc, ?_, ?_⟩
  · unfold breadB
    rw [if_pos hc]
    show cut (layB e.at_ e.b 0 B.b) e.at_.toNat e.b.length = e.b
    apply List.ext_getElem?
    intro j
    rw [cut_get, layB_get]
    by_cases hj : j < e.b.length
    · rw [if_pos hj, List.getElem?_eq_getElem (by omega : e.at_.toNat + j < B.b.length), Option.map_some, if_pos (by omega), show (0 + ((e.at_.toNat + j : Nat) : Int) - e.at_).toNat = j by omega, List.getElem?_eq_getElem hj]; rfl
    · rw [if_neg hj, List.getElem?_eq_none (by omega)]
  · unfold breadY
    rw [if_pos hc]
    show cut (layY e.at_ e.b.length e.by_ 0 B.y) e.at_.toNat e.b.length = _
    apply List.ext_getElem?
    intro j
    rw [cut_get, layY_get, List.getElem?_replicate]
    by_cases hj : j < e.b.length
    · rw [if_pos hj, if_pos hj, List.getElem?_eq_getElem (by omega : e.at_.toNat + j < B.y.length), Option.map_some, if_pos (by omega)]
    · rw [if_neg hj, if_neg hj]
end Go.Ren
