/-
  The plain law of renlaw19.FifoParts. No condition, no program.
-/
import Derived.Test.YtnnciakdeoopaaaFifoLaw
namespace Go.Ren
set_option linter.unusedVariables false

theorem cut_get {α : Type} (l : List α) (a n j : Nat) : (cut l a n)[j]? = if j < n then l[a + j]? else none := by
  unfold cut; rw [List.getElem?_take]; split
  · rw [List.getElem?_drop]
  · rfl
theorem layB_cut (e : Int) (x : List UInt8) (B : List UInt8) (a n : Nat) : layB e x a (cut B a n) = cut (layB e x 0 B) a n := by
  apply List.ext_getElem?
  intro j
  rw [layB_get, cut_get, cut_get]
  by_cases h : j < n
  · rw [if_pos h, if_pos h, layB_get]
    congr 1; funext u
    simp only [Int.zero_add, Int.natCast_add]
  · rw [if_neg h, if_neg h]; rfl
theorem layY_cut (e : Int) (k : Nat) (by_ : Int) (Y : List Int) (a n : Nat) : layY e k by_ a (cut Y a n) = cut (layY e k by_ 0 Y) a n := by
  apply List.ext_getElem?
  intro j
  rw [layY_get, cut_get, cut_get]
  by_cases h : j < n
  · rw [if_pos h, if_pos h, layY_get]
    congr 1; funext u
    simp only [Int.zero_add, Int.natCast_add]
  · rw [if_neg h, if_neg h]; rfl
theorem overB_cut (E : List Ent) (k : Int) (B : List UInt8) (a n : Nat) : overB E k a (cut B a n) = cut (overB E k 0 B) a n := by
  unfold overB
  induction E generalizing B with
  | nil => rfl
  | cons e E ih =>
    rw [List.foldl_cons, List.foldl_cons]
    by_cases h : e.blk = k
    · rw [if_pos h, if_pos h, layB_cut, ih]
    · rw [if_neg h, if_neg h, ih]
theorem overY_cut (E : List Ent) (k : Int) (Y : List Int) (a n : Nat) : overY E k a (cut Y a n) = cut (overY E k 0 Y) a n := by
  unfold overY
  induction E generalizing Y with
  | nil => rfl
  | cons e E ih =>
    rw [List.foldl_cons, List.foldl_cons]
    by_cases h : e.blk = k
    · rw [if_pos h, if_pos h, layY_cut, ih]
    · rw [if_neg h, if_neg h, ih]
theorem overB_other (E : List Ent) (k a : Int) (B : List UInt8) (h : ∀ e ∈ E, e.blk ≠ k) : overB E k a B = B := by
  unfold overB
  induction E generalizing B with
  | nil => rfl
  | cons e E ih => rw [List.foldl_cons, if_neg (h e (by simp)), ih _ (fun e' he' => h e' (by simp [he']))]
theorem overY_other (E : List Ent) (k a : Int) (Y : List Int) (h : ∀ e ∈ E, e.blk ≠ k) : overY E k a Y = Y := by
  unfold overY
  induction E generalizing Y with
  | nil => rfl
  | cons e E ih => rw [List.foldl_cons, if_neg (h e (by simp)), ih _ (fun e' he' => h e' (by simp [he']))]
theorem cut_rep {α : Type} (N a n : Nat) (u : α) (h : a + n ≤ N) : cut (List.replicate N u) a n = List.replicate n u := by
  unfold cut; simp; omega
theorem parts_B (E : List Ent) (a n : Nat) (h : a + n ≤ 64) : qoverB E 0 a (List.replicate n 0) (List.replicate n 0) = cut (qoverB E 0 0 (List.replicate 64 0) (List.replicate 64 0)) a n := by
  unfold qoverB
  rw [if_pos (by simp), if_pos (by simp), ← cut_rep 64 a n (0 : UInt8) h]
  exact overB_cut E 0 _ a n
theorem parts_Y (E : List Ent) (a n : Nat) (h : a + n ≤ 64) : qoverY E 0 a (List.replicate n 0) (List.replicate n 0) = cut (qoverY E 0 0 (List.replicate 64 0) (List.replicate 64 0)) a n := by
  unfold qoverY
  rw [if_pos (by simp), if_pos (by simp), ← cut_rep 64 a n (0 : Int) h]
  exact overY_cut E 0 _ a n
theorem parts_1 (E : List Ent) (h : ∀ e ∈ E, e.blk = 0) : qoverB E 1 0 (List.replicate 64 0) (List.replicate 64 0) = List.replicate 64 0 ∧ qoverY E 1 0 (List.replicate 64 0) (List.replicate 64 0) = List.replicate 64 0 := by
  unfold qoverB qoverY
  rw [if_pos (by simp), if_pos (by simp), overB_other _ _ _ _ (fun e he => by rw [h e he]; decide), overY_other _ _ _ _ (fun e he => by rw [h e he]; decide)]
  exact ⟨rfl, rfl⟩
theorem qover_len (E : List Ent) (k a : Int) (b : List UInt8) (y : List Int) : (qoverB E k a b y).length = b.length ∧ (qoverY E k a b y).length = y.length := by
  unfold qoverB qoverY
  constructor
  · split
    · exact overB_len _ _ _ _
    · rfl
  · split
    · exact overY_len _ _ _ _
    · rfl
theorem qoverY_ok {E : List Ent} (hE : ∀ e ∈ E, I64 e.by_) {k a : Int} {b : List UInt8} {y : List Int} (h : ∀ x ∈ y, I64 x) : ∀ x ∈ qoverY E k a b y, I64 x := by
  unfold qoverY
  split
  · exact overY_ok hE h
  · exact h
end Go.Ren
