/-
  What the store buffers' calls compute, on plain lists. No condition, no program. What the blocks' calls compute, on plain lists. No condition, no program. What Flush, Tear, Drain of a store buffer compute, on plain lists. No condition, no program. The plain law of renlaw19.FifoParts. No condition, no program. Plain facts on blocks that are written and read whole. No condition, no program. The plain law of renlaw19.FifoSees: what lies over the block's bytes stays under a flush, a tear, a drain. No condition, no program. What the calls of package event compute, on plain lists. No condition, no program. Bytes as words: laws. No condition, no program. What cells compute, on plain lists. No condition, no program. Words of 64 bits: what the program's operations on them give. Over any program. No condition. Laws for slices.Delete: cells written in a row; append onto a row's head in place; clear. No condition, no program.
-/
import Derived.Test.YtbhocahmhmafmaaMLib
import Derived.ArgAppend
import Derived.Lib.SliceRun
namespace Go.Ren
set_option linter.unusedVariables false

/-- What was stored. -/
structure Ent where
  blk : Int
  at_ : Int
  b : List UInt8
  by_ : Int
  tears : Bool
def ent (E : List Ent) (i : Nat) : Ent := E.getD i ⟨0, 0, [], 0, false⟩
theorem ent_eq {E : List Ent} {i : Nat} (h : i < E.length) : ent E i = E[i] := by simp [ent, h]
theorem ent_snoc_lt {E : List Ent} {e : Ent} {i : Nat} (h : i < E.length) : ent (E ++ [e]) i = ent E i := by simp [ent, List.getElem?_append_left h]
theorem ent_snoc {E : List Ent} {e : Ent} : ent (E ++ [e]) E.length = e := by simp [ent]
/-- What every entry of a buffer meets. -/
structure EOk (e : Ent) : Prop where
  blk : 0 ≤ e.blk ∧ e.blk ≤ 9223372036854775807
  at_ : 0 ≤ e.at_ ∧ e.at_ + e.b.length ≤ 264
  by_ : 0 ≤ e.by_ ∧ e.by_ ≤ 9223372036854775807
  len : 1 ≤ e.b.length ∧ e.b.length ≤ 8

def qputE (room : Nat) (E : List Ent) (e : Ent) : Int :=
  if e.blk < 0 ∨ e.at_ < 0 ∨ e.by_ < 0 ∨ 256 < e.at_ ∨ e.b.length < 1 ∨ 8 < e.b.length then 1 else if room ≤ E.length then 11 else 0
def qput (room : Nat) (E : List Ent) (e : Ent) : List Ent := if qputE room E e = 0 then E ++ [e] else E
theorem qputE_0 {room : Nat} {E : List Ent} {e : Ent} (h : qputE room E e = 0) : 0 ≤ e.blk ∧ 0 ≤ e.at_ ∧ 0 ≤ e.by_ ∧ e.at_ ≤ 256 ∧ 1 ≤ e.b.length ∧ e.b.length ≤ 8 ∧ E.length < room := by
  unfold qputE at h
  split at h
  · omega
  · split at h
    · omega
    · omega

/-- What one entry lays over bytes, and over their writers. -/
def layB (at_ : Int) (x : List UInt8) (a : Int) (b : List UInt8) : List UInt8 := b.mapIdx fun j u => if at_ ≤ a + j then (x[(a + j - at_).toNat]?).getD u else u
def layY (at_ : Int) (n : Nat) (by_ : Int) (a : Int) (y : List Int) : List Int := y.mapIdx fun j u => if at_ ≤ a + j ∧ a + j < at_ + n then by_ else u
def overB (E : List Ent) (k a : Int) (b : List UInt8) : List UInt8 := E.foldl (fun b e => if e.blk = k then layB e.at_ e.b a b else b) b
def overY (E : List Ent) (k a : Int) (y : List Int) : List Int := E.foldl (fun y e => if e.blk = k then layY e.at_ e.b.length e.by_ a y else y) y
def qoverB (E : List Ent) (k a : Int) (b : List UInt8) (y : List Int) : List UInt8 := if b.length = y.length then overB E k a b else b
def qoverY (E : List Ent) (k a : Int) (b : List UInt8) (y : List Int) : List Int := if b.length = y.length then overY E k a y else y

theorem layB_len (at_ : Int) (x : List UInt8) (a : Int) (b : List UInt8) : (layB at_ x a b).length = b.length := by simp [layB]
theorem layY_len (at_ : Int) (n : Nat) (by_ a : Int) (y : List Int) : (layY at_ n by_ a y).length = y.length := by simp [layY]
theorem layB_nil (at_ : Int) (a : Int) (b : List UInt8) : layB at_ [] a b = b := by
  apply List.ext_getElem?
  intro j
  simp [layB, List.getElem?_mapIdx]
theorem layY_nil (at_ by_ : Int) (a : Int) (y : List Int) : layY at_ 0 by_ a y = y := by
  apply List.ext_getElem?
  intro j
  unfold layY
  rw [List.getElem?_mapIdx]
  cases y[j]? with
  | none => rfl
  | some u => rw [Option.map_some, if_neg (by omega)]
theorem layB_get {at_ : Int} {x : List UInt8} {a : Int} {b : List UInt8} {j : Nat} : (layB at_ x a b)[j]? = (b[j]?).map fun u => if at_ ≤ a + j then (x[(a + j - at_).toNat]?).getD u else u := by simp [layB]
theorem layY_get {at_ : Int} {n : Nat} {by_ a : Int} {y : List Int} {j : Nat} : (layY at_ n by_ a y)[j]? = (y[j]?).map fun u => if at_ ≤ a + j ∧ a + j < at_ + n then by_ else u := by simp [layY]
/-- A byte more, within. -/
theorem layB_in {at_ : Int} {x : List UInt8} {a : Int} {b : List UInt8} {k i : Nat} (hk : k < x.length) (hi : at_ + k - a = i) (hl : i < b.length) : layB at_ (x.take (k + 1)) a b = (layB at_ (x.take k) a b).set i x[k] := by
  apply List.ext_getElem?
  intro j
  rw [List.getElem?_set, layB_get, layB_get, layB_len]
  by_cases e : i = j
  · subst e
    rw [if_pos rfl, if_pos hl, List.getElem?_eq_getElem hl, Option.map_some, if_pos (by omega)]
    rw [show (a + (i : Int) - at_).toNat = k by omega, List.getElem?_take, if_pos (by omega), List.getElem?_eq_getElem hk]; rfl
  · rw [if_neg e]
    congr 1; funext u
    by_cases h : at_ ≤ a + j
    · rw [if_pos h, if_pos h]
      have hne : (a + (j : Int) - at_).toNat ≠ k := by omega
      rw [List.getElem?_take, List.getElem?_take]
      by_cases h2 : (a + (j : Int) - at_).toNat < k
      · rw [if_pos h2, if_pos (by omega)]
      · rw [if_neg h2, if_neg (by omega)]
    · rw [if_neg h, if_neg h]
/-- A byte more, outside. -/
theorem layB_out {at_ : Int} {x : List UInt8} {a : Int} {b : List UInt8} {k : Nat} (h : at_ + k < a ∨ a + b.length ≤ at_ + k) : layB at_ (x.take (k + 1)) a b = layB at_ (x.take k) a b := by
  apply List.ext_getElem?
  intro j
  rw [layB_get, layB_get]
  by_cases hj : j < b.length
  · congr 1; funext u
    by_cases h1 : at_ ≤ a + j
    · rw [if_pos h1, if_pos h1, List.getElem?_take, List.getElem?_take]
      by_cases h2 : (a + (j : Int) - at_).toNat < k
      · rw [if_pos h2, if_pos (by omega)]
      · rw [if_neg h2, if_neg (by omega)]
    · rw [if_neg h1, if_neg h1]
  · have e : b[j]? = none := List.getElem?_eq_none (by omega)
    rw [e]; rfl
theorem layY_in {at_ by_ a : Int} {y : List Int} {k i : Nat} (hi : at_ + k - a = i) (hl : i < y.length) : layY at_ (k + 1) by_ a y = (layY at_ k by_ a y).set i by_ := by
  apply List.ext_getElem?
  intro j
  rw [List.getElem?_set, layY_get, layY_get, layY_len]
  by_cases e : i = j
  · subst e
    rw [if_pos rfl, if_pos hl, List.getElem?_eq_getElem hl, Option.map_some, if_pos (by omega)]
  · rw [if_neg e]
    congr 1; funext u
    by_cases h : at_ ≤ a + j ∧ a + j < at_ + k
    · rw [if_pos h, if_pos (by omega)]
    · rw [if_neg h, if_neg (by omega)]
theorem layY_out {at_ by_ a : Int} {y : List Int} {k : Nat} (h : at_ + k < a ∨ a + y.length ≤ at_ + k) : layY at_ (k + 1) by_ a y = layY at_ k by_ a y := by
  apply List.ext_getElem?
  intro j
  rw [layY_get, layY_get]
  by_cases hj : j < y.length
  · congr 1; funext u
    by_cases h1 : at_ ≤ a + j ∧ a + j < at_ + k
    · rw [if_pos h1, if_pos (by omega)]
    · rw [if_neg h1, if_neg (by omega)]
  · have e : y[j]? = none := List.getElem?_eq_none (by omega)
    rw [e]; rfl
theorem overB_len (E : List Ent) (k a : Int) (b : List UInt8) : (overB E k a b).length = b.length := by
  unfold overB
  induction E generalizing b with
  | nil => rfl
  | cons e E ih =>
    rw [List.foldl_cons, ih]
    split
    · exact layB_len _ _ _ _
    · rfl
theorem overY_len (E : List Ent) (k a : Int) (y : List Int) : (overY E k a y).length = y.length := by
  unfold overY
  induction E generalizing y with
  | nil => rfl
  | cons e E ih =>
    rw [List.foldl_cons, ih]
    split
    · exact layY_len _ _ _ _ _
    · rfl
theorem overB_snoc (E : List Ent) (i : Nat) (h : i < E.length) (k a : Int) (b : List UInt8) : overB (E.take (i + 1)) k a b = if (ent E i).blk = k then layB (ent E i).at_ (ent E i).b a (overB (E.take i) k a b) else overB (E.take i) k a b := by
  unfold overB
  rw [List.take_succ_eq_append_getElem h, List.foldl_append, ent_eq h]; rfl
theorem overY_snoc (E : List Ent) (i : Nat) (h : i < E.length) (k a : Int) (y : List Int) : overY (E.take (i + 1)) k a y = if (ent E i).blk = k then layY (ent E i).at_ (ent E i).b.length (ent E i).by_ a (overY (E.take i) k a y) else overY (E.take i) k a y := by
  unfold overY
  rw [List.take_succ_eq_append_getElem h, List.foldl_append, ent_eq h]; rfl
theorem layY_ok {at_ by_ a : Int} {n : Nat} {y : List Int} (h : ∀ x ∈ y, I64 x) (hb : I64 by_) : ∀ x ∈ layY at_ n by_ a y, I64 x := by
  intro x hx
  obtain ⟨i, hi, rfl⟩ := List.getElem_of_mem hx
  have h1 : (layY at_ n by_ a y)[i]? = some (layY at_ n by_ a y)[i] := List.getElem?_eq_getElem hi
  rw [layY_get] at h1
  obtain ⟨u, hu, e⟩ := Option.map_eq_some_iff.1 h1
  rw [← e]
  split
  · exact hb
  · exact h u (List.mem_of_getElem? hu)
theorem overY_ok {E : List Ent} (hE : ∀ e ∈ E, I64 e.by_) {k a : Int} {y : List Int} (h : ∀ x ∈ y, I64 x) : ∀ x ∈ overY E k a y, I64 x := by
  unfold overY
  induction E generalizing y with
  | nil => exact h
  | cons e E ih =>
    rw [List.foldl_cons]
    refine ih (fun e' he' => hE e' (by simp [he'])) ?_
    split
    · exact layY_ok h (hE e (by simp))
    · exact h
end Go.Ren
namespace Go.Ren

/-- A block: its bytes, and by whom each was written. -/
structure Blk where
  b : List UInt8
  y : List Int
def blk (m : List Blk) (i : Nat) : Blk := m.getD i ⟨[], []⟩
theorem blk_eq {m : List Blk} {i : Nat} (h : i < m.length) : blk m i = m[i] := by simp [blk, h]
/-- What every list of blocks that the calls make meets. -/
structure BOk (m : List Blk) : Prop where
  cnt : m.length ≤ 16
  len : ∀ i, i < m.length → (blk m i).y.length = (blk m i).b.length
  top : ∀ i, i < m.length → (blk m i).b.length ≤ 256
  ok : ∀ i, i < m.length → ∀ x ∈ (blk m i).y, I64 x

def bsize (m : List Blk) (k : Int) : Int := if 0 ≤ k ∧ k < (m.length : Int) then ((blk m k.toNat).b.length : Int) else -1
def bcheck (m : List Blk) (k at_ n : Int) : Int := if bsize m k < 0 then 9 else if at_ < 0 ∨ n < 0 ∨ bsize m k < at_ ∨ bsize m k - at_ < n then 1 else 0
def bmakeE (m : List Blk) (size : Int) : Int := if size < 0 ∨ 256 < size then 1 else if 16 ≤ m.length then 11 else 0
def newBlk (size : Nat) : Blk := ⟨List.replicate size 0, List.replicate size (-1)⟩
def bmake (m : List Blk) (size : Int) : List Blk := if bmakeE m size = 0 then m ++ [newBlk size.toNat] else m
def bmakeN (m : List Blk) (size : Int) : Int := if bmakeE m size = 0 then (m.length : Int) else 0
def breadB (m : List Blk) (k at_ n : Int) : List UInt8 := if bcheck m k at_ n = 0 then cut (blk m k.toNat).b at_.toNat n.toNat else []
def breadY (m : List Blk) (k at_ n : Int) : List Int := if bcheck m k at_ n = 0 then cut (blk m k.toNat).y at_.toNat n.toNat else []
def wBlk (B : Blk) (a : Nat) (x : List UInt8) (by_ : Int) : Blk := ⟨splice B.b a x, splice B.y a (List.replicate x.length by_)⟩
def bwrite (m : List Blk) (k at_ : Int) (x : List UInt8) (by_ : Int) : List Blk :=
  if bcheck m k at_ x.length = 0 then m.set k.toNat (wBlk (blk m k.toNat) at_.toNat x by_) else m

theorem bcheck_0 {m : List Blk} {k a n : Int} (h : bcheck m k a n = 0) : 0 ≤ k ∧ k < (m.length : Int) ∧ 0 ≤ a ∧ 0 ≤ n ∧ a + n ≤ ((blk m k.toNat).b.length : Int) ∧ bsize m k = ((blk m k.toNat).b.length : Int) := by
  unfold bcheck at h
  by_cases h1 : bsize m k < 0
  · rw [if_pos h1] at h; omega
  · rw [if_neg h1] at h
    split at h
    · omega
    · rename_i h2
      unfold bsize at h1 h2 ⊢
      split at h1
      · rename_i h3
        rw [if_pos h3] at h2 ⊢
        refine ⟨h3.1, h3.2, ?_⟩
        omega
      · omega
theorem bsize_le {m : List Blk} (h : BOk m) (k : Int) : -1 ≤ bsize m k ∧ bsize m k ≤ 256 := by
  unfold bsize
  split
  · rename_i h1; have := h.top k.toNat (by omega); omega
  · omega
end Go.Ren
namespace Go.Ren
set_option linter.unusedVariables false

def qflushM (E : List Ent) (m : List Blk) : List Blk := match E with | [] => m | e :: _ => bwrite m e.blk e.at_ e.b e.by_
def tearsE (e : Ent) : Bool := e.tears && decide (2 ≤ e.b.length)
def tearEnt (e : Ent) : Ent := ⟨e.blk, e.at_ + (e.b.length / 2 : Nat), e.b.drop (e.b.length / 2), e.by_, false⟩
def qtears (E : List Ent) : Bool := match E with | [] => false | e :: _ => tearsE e
def qtear (E : List Ent) : List Ent := match E with | [] => [] | e :: E' => if tearsE e then tearEnt e :: E' else e :: E'
def qtearM (E : List Ent) (m : List Blk) : List Blk := match E with | [] => m | e :: _ => if tearsE e then bwrite m e.blk e.at_ (e.b.take (e.b.length / 2)) e.by_ else m
def qdrainM (E : List Ent) (m : List Blk) : List Blk := E.foldl (fun m e => bwrite m e.blk e.at_ e.b e.by_) m
theorem qdrainM_cons (e : Ent) (E : List Ent) (m : List Blk) : qdrainM (e :: E) m = qdrainM E (qflushM (e :: E) m) := rfl
theorem tearEnt_ok {e : Ent} (h : EOk e) (ht : tearsE e = true) : EOk (tearEnt e) := by
  have h1 := h.at_
  have h2 := h.len
  have h3 : 2 ≤ e.b.length := by simp [tearsE] at ht; exact ht.2
  refine ⟨h.blk, ?_, h.by_, ?_⟩
  · simp only [tearEnt, List.length_drop]; omega
  · simp only [tearEnt, List.length_drop]; omega
theorem ent_cons_succ (e : Ent) (E : List Ent) (i : Nat) : ent (e :: E) (i + 1) = ent E i := by simp [ent]
theorem ent_cons_zero (e : Ent) (E : List Ent) : ent (e :: E) 0 = e := by simp [ent]

theorem flat_drop (sz n : Nat) (f : Nat → Nat → Value) (hs : 0 < sz) : (flat sz (n + 1) f).drop sz = flat sz n (fun i j => f (i + 1) j) := by
  apply List.ext_getElem?
  intro t
  rw [List.getElem?_drop]
  have e : (n + 1) * sz = n * sz + sz := by rw [Nat.add_mul, Nat.one_mul]
  by_cases h : t < n * sz
  · have h3 : (sz + t) / sz = t / sz + 1 := by rw [Nat.add_comm, Nat.add_div_right _ hs]
    have h4 : (sz + t) % sz = t % sz := by rw [Nat.add_comm, Nat.add_mod_right]
    simp [flat, h, show sz + t < (n + 1) * sz by omega, h3, h4]
  · simp [flat, h, show ¬ sz + t < (n + 1) * sz by omega]
end Go.Ren
namespace Go.Ren
set_option linter.unusedVariables false

theorem cut_get {α : Type} (l : List α) (a n j : Nat) : (cut l a n)[j]? = if j < n then l[a + j]? else none := by
  unfold cut; rw [List.getElem?_take]; split
  · rw [List.getElem?_drop]
  · rfl
theorem layB_cut (e : Int) (x : List UInt8) (B : List UInt8) (a n : Nat) : layB e x a (cut B a n) = cut (layB e x 0 B) a n := by
  apply List.ext_getElem?
  intro j
  rw [layB_get, cut_get, cut_get]
  by_cases h : j < n
  · rw [if_pos h, if_pos h, layB_get]
    congr 1; funext u
    simp only [Int.zero_add, Int.natCast_add]
  · rw [if_neg h, if_neg h]; rfl
theorem layY_cut (e : Int) (k : Nat) (by_ : Int) (Y : List Int) (a n : Nat) : layY e k by_ a (cut Y a n) = cut (layY e k by_ 0 Y) a n := by
  apply List.ext_getElem?
  intro j
  rw [layY_get, cut_get, cut_get]
  by_cases h : j < n
  · rw [if_pos h, if_pos h, layY_get]
    congr 1; funext u
    simp only [Int.zero_add, Int.natCast_add]
  · rw [if_neg h, if_neg h]; rfl
theorem overB_cut (E : List Ent) (k : Int) (B : List UInt8) (a n : Nat) : overB E k a (cut B a n) = cut (overB E k 0 B) a n := by
  unfold overB
  induction E generalizing B with
  | nil => rfl
  | cons e E ih =>
    rw [List.foldl_cons, List.foldl_cons]
    by_cases h : e.blk = k
    · rw [if_pos h, if_pos h, layB_cut, ih]
    · rw [if_neg h, if_neg h, ih]
theorem overY_cut (E : List Ent) (k : Int) (Y : List Int) (a n : Nat) : overY E k a (cut Y a n) = cut (overY E k 0 Y) a n := by
  unfold overY
  induction E generalizing Y with
  | nil => rfl
  | cons e E ih =>
    rw [List.foldl_cons, List.foldl_cons]
    by_cases h : e.blk = k
    · rw [if_pos h, if_pos h, layY_cut, ih]
    · rw [if_neg h, if_neg h, ih]
theorem overB_other (E : List Ent) (k a : Int) (B : List UInt8) (h : ∀ e ∈ E, e.blk ≠ k) : overB E k a B = B := by
  unfold overB
  induction E generalizing B with
  | nil => rfl
  | cons e E ih => rw [List.foldl_cons, if_neg (h e (by simp)), ih _ (fun e' he' => h e' (by simp [he']))]
theorem overY_other (E : List Ent) (k a : Int) (Y : List Int) (h : ∀ e ∈ E, e.blk ≠ k) : overY E k a Y = Y := by
  unfold overY
  induction E generalizing Y with
  | nil => rfl
  | cons e E ih => rw [List.foldl_cons, if_neg (h e (by simp)), ih _ (fun e' he' => h e' (by simp [he']))]
theorem cut_rep {α : Type} (N a n : Nat) (u : α) (h : a + n ≤ N) : cut (List.replicate N u) a n = List.replicate n u := by
  unfold cut; simp; omega
theorem parts_B (E : List Ent) (a n : Nat) (h : a + n ≤ 64) : qoverB E 0 a (List.replicate n 0) (List.replicate n 0) = cut (qoverB E 0 0 (List.replicate 64 0) (List.replicate 64 0)) a n := by
  unfold qoverB
  rw [if_pos (by simp), if_pos (by simp), ← cut_rep 64 a n (0 : UInt8) h]
  exact overB_cut E 0 _ a n
theorem parts_Y (E : List Ent) (a n : Nat) (h : a + n ≤ 64) : qoverY E 0 a (List.replicate n 0) (List.replicate n 0) = cut (qoverY E 0 0 (List.replicate 64 0) (List.replicate 64 0)) a n := by
  unfold qoverY
  rw [if_pos (by simp), if_pos (by simp), ← cut_rep 64 a n (0 : Int) h]
  exact overY_cut E 0 _ a n
theorem parts_1 (E : List Ent) (h : ∀ e ∈ E, e.blk = 0) : qoverB E 1 0 (List.replicate 64 0) (List.replicate 64 0) = List.replicate 64 0 ∧ qoverY E 1 0 (List.replicate 64 0) (List.replicate 64 0) = List.replicate 64 0 := by
  unfold qoverB qoverY
  rw [if_pos (by simp), if_pos (by simp), overB_other _ _ _ _ (fun e he => by rw [h e he]; decide), overY_other _ _ _ _ (fun e he => by rw [h e he]; decide)]
  exact ⟨rfl, rfl⟩
theorem qover_len (E : List Ent) (k a : Int) (b : List UInt8) (y : List Int) : (qoverB E k a b y).length = b.length ∧ (qoverY E k a b y).length = y.length := by
  unfold qoverB qoverY
  constructor
  · split
    · exact overB_len _ _ _ _
    · rfl
  · split
    · exact overY_len _ _ _ _
    · rfl
theorem qoverY_ok {E : List Ent} (hE : ∀ e ∈ E, I64 e.by_) {k a : Int} {b : List UInt8} {y : List Int} (h : ∀ x ∈ y, I64 x) : ∀ x ∈ qoverY E k a b y, I64 x := by
  unfold qoverY
  split
  · exact overY_ok hE h
  · exact h
end Go.Ren
namespace Go.Ren
set_option linter.unusedVariables false

theorem splice_get {α : Type} (L : List α) (off : Nat) (cs : List α) (h : off + cs.length ≤ L.length) (j : Nat) :
    (splice L off cs)[j]? = if off ≤ j ∧ j < off + cs.length then cs[j - off]? else L[j]? := by
  unfold splice
  have e : (L.take off).length = off := by simp; omega
  by_cases h1 : j < off
  · rw [List.getElem?_append_left (by omega), if_neg (by omega), List.getElem?_take, if_pos h1]
  · rw [List.getElem?_append_right (by omega), e]
    by_cases h2 : j < off + cs.length
    · rw [List.getElem?_append_left (by omega), if_pos (by omega)]
    · rw [List.getElem?_append_right (by omega), if_neg (by omega), List.getElem?_drop]
      congr 1; omega
theorem cut_all {α : Type} (l : List α) (n : Nat) (h : n = l.length) : cut l 0 n = l := by subst h; simp [cut]
theorem cut_splice {α : Type} (L cs : List α) (h : cs.length ≤ L.length) : cut (splice L 0 cs) 0 cs.length = cs := by
  simp [cut, splice]
theorem wBlk_b {B : Blk} {a : Nat} {x : List UInt8} {y : Int} (h : a + x.length ≤ B.b.length) : (wBlk B a x y).b.length = B.b.length := by simp only [wBlk]; exact length_splice _ _ _ h
theorem wBlk_y {B : Blk} {a : Nat} {x : List UInt8} {y : Int} (h : a + x.length ≤ B.y.length) : (wBlk B a x y).y.length = B.y.length := by simp only [wBlk]; exact length_splice _ _ _ (by simpa using h)

/-- A whole block is read. -/
theorem bread_all {m : List Blk} {k : Nat} (hk : k < m.length) (n : Nat) (hn : n = (blk m k).b.length) (hy : (blk m k).y.length = (blk m k).b.length) :
    bcheck m k 0 n = 0 ∧ breadB m k 0 n = (blk m k).b ∧ breadY m k 0 n = (blk m k).y := by
  have hs : bsize m k = ((blk m k).b.length : Int) := by unfold bsize; rw [if_pos (by omega)]; simp
  have hc : bcheck m k 0 n = 0 := by unfold bcheck; rw [hs, if_neg (by omega), if_neg (by omega)]
  refine ⟨hc, ?_, ?_⟩
  · unfold breadB; rw [if_pos hc]; simp only [Int.toNat_natCast]; exact cut_all _ _ (by simpa using hn)
  · unfold breadY; rw [if_pos hc]; simp only [Int.toNat_natCast]; exact cut_all _ _ (by simpa [hy] using hn)

/-- Two blocks of good sizes that were both written from their heads on. -/
theorem keeps_two {size other : Int} {c : List UInt8} {cy : Int} (he : bmakeE [] size = 0) (hf : bmakeE (bmake [] size) other = 0) (h1 : bcheck (bmake (bmake [] size) other) 0 0 c.length = 0)
    (h2 : bcheck (bwrite (bmake (bmake [] size) other) 0 0 c cy) 1 0 c.length = 0) :
    ∃ (z : Nat) (K0 K1 : Blk), size = z ∧ bwrite (bwrite (bmake (bmake [] size) other) 0 0 c cy) 1 0 c cy = [K0, K1] ∧ K0.b.length = z ∧ K0.y.length = z ∧ c.length ≤ K1.b.length ∧ K1.y.length = K1.b.length ∧ cut K1.b 0 c.length = c ∧ z ≤ 256 := by
  have hz : 0 ≤ size ∧ size ≤ 256 := by unfold bmakeE at he; split at he; omega; omega
  have ho : 0 ≤ other ∧ other ≤ 256 := by unfold bmakeE at hf; split at hf; omega; omega
  obtain ⟨z, rfl⟩ := Int.eq_ofNat_of_zero_le hz.1
  obtain ⟨o, rfl⟩ := Int.eq_ofNat_of_zero_le ho.1
  have e1 : bmake [] z = [newBlk z] := by unfold bmake; rw [if_pos he]; simp
  rw [e1] at hf h1 h2 ⊢
  have e2 : bmake [newBlk z] o = [newBlk z, newBlk o] := by unfold bmake; rw [if_pos hf]; simp
  rw [e2] at h1 h2 ⊢
  have e3 : bwrite [newBlk z, newBlk o] 0 0 c cy = [wBlk (newBlk z) 0 c cy, newBlk o] := by unfold bwrite; rw [if_pos h1]; rfl
  rw [e3] at h2 ⊢
  have e4 : bwrite [wBlk (newBlk z) 0 c cy, newBlk o] 1 0 c cy = [wBlk (newBlk z) 0 c cy, wBlk (newBlk o) 0 c cy] := by unfold bwrite; rw [if_pos h2]; rfl
  have l1 : c.length ≤ z := by
    have := bcheck_0 h1
    have e : (blk [newBlk z, newBlk o] (0 : Int).toNat) = newBlk z := rfl
    rw [e] at this; simp [newBlk] at this; omega
  have l2 : c.length ≤ o := by
    have := bcheck_0 h2
    have e : (blk [wBlk (newBlk z) 0 c cy, newBlk o] (1 : Int).toNat) = newBlk o := rfl
    rw [e] at this; simp [newBlk] at this; omega
  refine ⟨z, wBlk (newBlk z) 0 c cy, wBlk (newBlk o) 0 c cy, rfl, e4, ?_, ?_, ?_, ?_, ?_, by omega⟩
  · rw [wBlk_b (by simp [newBlk]; omega)]; simp [newBlk]
  · rw [wBlk_y (by simp [newBlk]; omega)]; simp [newBlk]
  · rw [wBlk_b (by simp [newBlk]; omega)]; simp [newBlk]; omega
  · rw [wBlk_b (by simp [newBlk]; omega), wBlk_y (by simp [newBlk]; omega)]; simp [newBlk]
  · exact cut_splice _ _ (by simp [newBlk]; omega)

/-- What one more write does to the first of two blocks, byte by byte. -/
theorem keeps_write {K0 K1 : Blk} {z : Nat} (hb : K0.b.length = z) (hy : K0.y.length = z) (a : Int) (b : List UInt8) (by_ : Int) :
    ∃ N0 : Blk, bwrite [K0, K1] 0 a b by_ = [N0, K1] ∧ N0.b.length = z ∧ N0.y.length = z ∧
      (∀ k : Nat, k < z → bcheck [K0, K1] 0 a b.length = 0 → a ≤ (k : Int) → (k : Int) - a < b.length → N0.b[k]? = b[((k : Int) - a).toNat]? ∧ N0.y[k]? = some by_) ∧
      (∀ k : Nat, k < z → (bcheck [K0, K1] 0 a b.length ≠ 0 ∨ (k : Int) < a ∨ (b.length : Int) ≤ (k : Int) - a) → N0.b[k]? = K0.b[k]? ∧ N0.y[k]? = K0.y[k]?) := by
  by_cases h : bcheck [K0, K1] 0 a b.length = 0
  · have e : bwrite [K0, K1] 0 a b by_ = [wBlk K0 a.toNat b by_, K1] := by unfold bwrite; rw [if_pos h]; rfl
    obtain ⟨_, _, q3, _, q5, _⟩ := bcheck_0 h
    have e0 : (blk [K0, K1] (0 : Int).toNat) = K0 := rfl
    rw [e0] at q5
    have hl : a.toNat + b.length ≤ K0.b.length := by omega
    have hl2 : a.toNat + (List.replicate b.length by_).length ≤ K0.y.length := by simp; omega
    refine ⟨_, e, by rw [wBlk_b hl, hb], by rw [wBlk_y (by omega), hy], fun k hk _ h1 h2 => ?_, fun k hk h1 => ?_⟩
    · simp only [wBlk]
      rw [splice_get _ _ _ hl, splice_get _ _ _ hl2, if_pos (by omega), if_pos (by simp; omega)]
      refine ⟨by congr 1; omega, ?_⟩
      rw [List.getElem?_replicate, if_pos (by omega)]
    · simp only [wBlk]
      have hh : (k : Int) < a ∨ (b.length : Int) ≤ (k : Int) - a := h1.resolve_left (fun hn => hn h)
      rw [splice_get _ _ _ hl, splice_get _ _ _ hl2, if_neg (by omega), if_neg (by simp; omega)]
      exact ⟨rfl, rfl⟩
  · have e : bwrite [K0, K1] 0 a b by_ = [K0, K1] := by unfold bwrite; rw [if_neg h]
    exact ⟨K0, e, hb, hy, fun k hk h0 => absurd h0 h, fun k hk _ => ⟨rfl, rfl⟩⟩
end Go.Ren
namespace Go.Ren
set_option linter.unusedVariables false

def In64 (e : Ent) : Prop := e.blk = 0 ∧ 0 ≤ e.at_ ∧ e.at_ + e.b.length ≤ 64 ∧ I64 e.by_
theorem splice_layB {B : List UInt8} {a : Nat} {x : List UInt8} (h : a + x.length ≤ B.length) : splice B a x = layB a x 0 B := by
  apply List.ext_getElem?
  intro j
  rw [splice_get _ _ _ h, layB_get]
  simp only [Int.zero_add]
  by_cases hj : j < B.length
  · rw [List.getElem?_eq_getElem hj, Option.map_some]
    by_cases h1 : a ≤ j ∧ j < a + x.length
    · rw [if_pos h1, if_pos (by omega), show ((j : Int) - (a : Int)).toNat = j - a by omega, List.getElem?_eq_getElem (by omega)]; rfl
    · rw [if_neg h1]
      by_cases h2 : (a : Int) ≤ j
      · rw [if_pos h2, List.getElem?_eq_none (by omega)]; rfl
      · rw [if_neg h2]
  · rw [if_neg (by omega), List.getElem?_eq_none (by omega)]; rfl
theorem splice_layY {Y : List Int} {a n : Nat} {y : Int} (h : a + n ≤ Y.length) : splice Y a (List.replicate n y) = layY a n y 0 Y := by
  apply List.ext_getElem?
  intro j
  rw [splice_get _ _ _ (by simpa using h), layY_get]
  simp only [Int.zero_add, List.length_replicate]
  by_cases hj : j < Y.length
  · rw [List.getElem?_eq_getElem hj, Option.map_some]
    by_cases h1 : a ≤ j ∧ j < a + n
    · rw [if_pos h1, if_pos (by omega), List.getElem?_replicate, if_pos (by omega)]
    · rw [if_neg h1, if_neg (by omega)]
  · rw [if_neg (by omega), List.getElem?_eq_none (by omega)]; rfl

/-- One write into the one block of 64 bytes. -/
theorem write64 {B : Blk} (hb : B.b.length = 64) (hy : B.y.length = 64) {a : Int} {x : List UInt8} (y : Int) (h1 : 0 ≤ a) (h2 : a + x.length ≤ 64) :
    bcheck [B] 0 a x.length = 0 ∧ bwrite [B] 0 a x y = [⟨layB a x 0 B.b, layY a x.length y 0 B.y⟩] := by
  obtain ⟨a, rfl⟩ := Int.eq_ofNat_of_zero_le h1
  have hs : bsize [B] 0 = 64 := by unfold bsize; rw [if_pos (by simp)]; simp [blk, hb]
  have hc : bcheck [B] 0 a x.length = 0 := by unfold bcheck; rw [hs, if_neg (by omega), if_neg (by omega)]
  refine ⟨hc, ?_⟩
  unfold bwrite
  rw [if_pos hc]
  have e : (blk [B] (0 : Int).toNat) = B := rfl
  rw [e]
  simp only [wBlk, Int.toNat_natCast, Int.toNat_zero, List.set_cons_zero]
  rw [splice_layB (by omega), splice_layY (by omega)]

structure Sees (E : List Ent) (m : List Blk) (X : List UInt8) (Y : List Int) : Prop where
  ex : ∃ B, m = [B] ∧ B.b.length = 64 ∧ B.y.length = 64 ∧ overB E 0 0 B.b = X ∧ overY E 0 0 B.y = Y
  ok : ∀ e ∈ E, In64 e
theorem layB_two {a : Int} {x : List UInt8} {n : Nat} {B : List UInt8} (hn : n ≤ x.length) : layB (a + n) (x.drop n) 0 (layB a (x.take n) 0 B) = layB a x 0 B := by
  apply List.ext_getElem?
  intro j
  rw [layB_get, layB_get, layB_get]
  cases B[j]? with
  | none => rfl
  | some u =>
    simp only [Option.map_some, Int.zero_add]
    congr 1
    by_cases h1 : a ≤ (j : Int)
    · rw [if_pos h1, if_pos h1]
      by_cases h2 : a + n ≤ (j : Int)
      · rw [if_pos h2, List.getElem?_drop, show n + ((j : Int) - (a + n)).toNat = ((j : Int) - a).toNat by omega]
        rw [List.getElem?_take, if_neg (by omega)]; rfl
      · rw [if_neg h2, List.getElem?_take, if_pos (by omega)]
    · rw [if_neg h1, if_neg h1, if_neg (by omega)]
theorem layY_two {a y : Int} {n k : Nat} {Y : List Int} (hn : n ≤ k) : layY (a + n) (k - n) y 0 (layY a n y 0 Y) = layY a k y 0 Y := by
  apply List.ext_getElem?
  intro j
  rw [layY_get, layY_get, layY_get]
  cases Y[j]? with
  | none => rfl
  | some u =>
    simp only [Option.map_some, Int.zero_add]
    congr 1
    by_cases h1 : a ≤ (j : Int) ∧ (j : Int) < a + k
    · rw [if_pos h1]
      by_cases h2 : a + n ≤ (j : Int)
      · rw [if_pos (by omega)]
      · rw [if_neg (by omega), if_pos (by omega)]
    · rw [if_neg h1, if_neg (by omega), if_neg (by omega)]
theorem sees_flush {E : List Ent} {m : List Blk} {X : List UInt8} {Y : List Int} (h : Sees E m X Y) : Sees E.tail (qflushM E m) X Y := by
  cases E with
  | nil => exact h
  | cons e E =>
    obtain ⟨B, rfl, hb, hy, h1, h2⟩ := h.ex
    obtain ⟨g1, g2, g3, g4⟩ := h.ok e (by simp)
    have hw := (write64 hb hy e.by_ g2 g3).2
    refine ⟨⟨_, (by simp only [qflushM, g1]; exact hw), by simp [layB_len, hb], by simp [layY_len, hy], ?_, ?_⟩, fun x hx => h.ok x (by simp at hx; simp [hx])⟩
    · rw [← h1]; simp [overB, List.foldl_cons, g1]
    · rw [← h2]; simp [overY, List.foldl_cons, g1]
theorem sees_tear {E : List Ent} {m : List Blk} {X : List UInt8} {Y : List Int} (h : Sees E m X Y) : Sees (qtear E) (qtearM E m) X Y := by
  cases E with
  | nil => exact h
  | cons e E =>
    by_cases ht : tearsE e = true
    · obtain ⟨B, rfl, hb, hy, h1, h2⟩ := h.ex
      obtain ⟨g1, g2, g3, g4⟩ := h.ok e (by simp)
      have hle : e.b.length / 2 ≤ e.b.length := by omega
      have hl : (e.b.take (e.b.length / 2)).length = e.b.length / 2 := by simp; omega
      have hw := (write64 hb hy (x := e.b.take (e.b.length / 2)) e.by_ g2 (by rw [hl]; omega)).2
      rw [hl] at hw
      have e1 : qtear (e :: E) = tearEnt e :: E := by simp [qtear, ht]
      have e2 : qtearM (e :: E) [B] = [⟨layB e.at_ (e.b.take (e.b.length / 2)) 0 B.b, layY e.at_ (e.b.length / 2) e.by_ 0 B.y⟩] := by simp only [qtearM, ht, if_true, g1]; exact hw
      rw [e1, e2]
      refine ⟨⟨_, rfl, by simp [layB_len, hb], by simp [layY_len, hy], ?_, ?_⟩, fun x hx => ?_⟩
      · rw [← h1]
        simp only [overB, List.foldl_cons, tearEnt, g1, if_true]
        rw [layB_two hle]
      · rw [← h2]
        simp only [overY, List.foldl_cons, tearEnt, g1, if_true, List.length_drop]
        rw [layY_two hle]
      · rcases List.mem_cons.1 hx with rfl | hx
        · refine ⟨g1, ?_, ?_, g4⟩
          · simp only [tearEnt]; omega
          · simp only [tearEnt, List.length_drop]; omega
        · exact h.ok x (by simp [hx])
    · have e1 : tearsE e = false := by simpa using ht
      have e2 : qtear (e :: E) = e :: E := by simp [qtear, e1]
      have e3 : qtearM (e :: E) m = m := by simp [qtearM, e1]
      rw [e2, e3]; exact h
theorem sees_drain {E : List Ent} {m : List Blk} {X : List UInt8} {Y : List Int} (h : Sees E m X Y) : Sees [] (qdrainM E m) X Y := by
  induction E generalizing m with
  | nil => exact h
  | cons e E ih => rw [qdrainM_cons]; exact ih (sees_flush h)
theorem sees_read {E : List Ent} {m : List Blk} {X : List UInt8} {Y : List Int} (h : Sees E m X Y) : bcheck m 0 0 64 = 0 ∧ (breadB m 0 0 64).length = 64 ∧ (breadY m 0 0 64).length = 64 ∧
    qoverB E 0 0 (breadB m 0 0 64) (breadY m 0 0 64) = X ∧ qoverY E 0 0 (breadB m 0 0 64) (breadY m 0 0 64) = Y := by
  obtain ⟨B, rfl, hb, hy, h1, h2⟩ := h.ex
  have e : blk [B] 0 = B := rfl
  obtain ⟨r1, r2, r3⟩ := bread_all (m := [B]) (k := 0) (by simp) 64 (by rw [e, hb]) (by rw [e, hb, hy])
  rw [e] at r2 r3
  have r1' : bcheck [B] 0 0 64 = 0 := r1
  have r2' : breadB [B] 0 0 64 = B.b := r2
  have r3' : breadY [B] 0 0 64 = B.y := r3
  rw [r2', r3']
  unfold qoverB qoverY
  rw [if_pos (by rw [hb, hy]), if_pos (by rw [hb, hy])]
  exact ⟨r1', hb, hy, h1, h2⟩
theorem sees_done {m : List Blk} {X : List UInt8} {Y : List Int} (h : Sees [] m X Y) : breadB m 0 0 64 = X ∧ breadY m 0 0 64 = Y := by
  obtain ⟨r1, r2, r3, r4, r5⟩ := sees_read h
  unfold qoverB at r4; unfold qoverY at r5
  rw [if_pos (by rw [r2, r3])] at r4 r5
  exact ⟨r4, r5⟩
theorem sees_lens {E : List Ent} {m : List Blk} {X : List UInt8} {Y : List Int} (h : Sees E m X Y) : X.length = 64 ∧ Y.length = 64 := by
  obtain ⟨B, rfl, hb, hy, h1, h2⟩ := h.ex
  rw [← h1, ← h2, overB_len, overY_len]; exact ⟨hb, hy⟩
theorem sees_start {E : List Ent} (hok : ∀ e ∈ E, In64 e) : ∃ X Y, Sees E (bmake [] 64) X Y := by
  have e1 : bmake [] 64 = [newBlk 64] := by unfold bmake; rw [if_pos (by decide)]; rfl
  rw [e1]
  exact ⟨_, _, ⟨_, rfl, by simp [newBlk], by simp [newBlk], rfl, rfl⟩, hok⟩
theorem sees_Yok {E : List Ent} {m : List Blk} {X : List UInt8} {Y : List Int} (h : Sees E m X Y) (hm : ∀ x ∈ breadY m 0 0 64, I64 x) : ∀ x ∈ Y, I64 x := by
  have := (sees_read h).2.2.2.2
  rw [← this]
  exact qoverY_ok (fun e he => (h.ok e he).2.2.2) hm
end Go.Ren
namespace Go.Ren
set_option linter.unusedVariables false

structure Ev where
  ag : Int
  kind : Int
  seq : Bool
  nt : Bool
  blk : Int
  at_ : Int
  size : Int
  rd : List UInt8
  wr : List UInt8
  fr : List Int
structure Lg where
  ev : List Ev
  pr : List (Int × Int)
def ev0 : Ev := ⟨0, 0, false, false, 0, 0, 0, [], [], []⟩
def evn (L : List Ev) (i : Nat) : Ev := L.getD i ev0
theorem evn_eq {L : List Ev} {i : Nat} (h : i < L.length) : evn L i = L[i] := by simp [evn, h]
structure EvI (e : Ev) : Prop where
  ag : I64 e.ag
  kind : I64 e.kind
  blk : I64 e.blk
  at_ : I64 e.at_
  size : I64 e.size
  fr : ∀ x ∈ e.fr, I64 x

def rdsB (e : Ev) : Bool := decide (e.kind = 1 ∨ e.kind = 3)
def wrsB (e : Ev) : Bool := decide (e.kind = 2 ∨ e.kind = 3)
def evEq (a b : Ev) : Bool := decide (a.kind ≠ 0 ∧ b.kind ≠ 0 ∧ a.blk = b.blk ∧ a.at_ = b.at_ ∧ a.size = b.size)
def withB (a f s : Int) : Bool := decide (f ≤ a ∧ a - f < s)
def evOver (a b : Ev) : Bool := decide (a.kind ≠ 0 ∧ b.kind ≠ 0 ∧ a.blk = b.blk ∧ 1 ≤ a.size ∧ 1 ≤ b.size) && (withB a.at_ b.at_ b.size || withB b.at_ a.at_ a.size)
def evCov (e : Ev) (b a : Int) : Bool := decide (e.kind ≠ 0 ∧ e.blk = b) && withB a e.at_ e.size
def evFields (e : Ev) : Bool :=
  if e.kind = 0 then !e.seq && !e.nt && decide (e.blk = 0 ∧ e.at_ = 0 ∧ e.size = 0) && e.rd.isEmpty && e.wr.isEmpty && e.fr.isEmpty
  else decide (e.kind = 1 ∨ e.kind = 2 ∨ e.kind = 3) && (decide (e.kind ≠ 3) || e.seq && e.nt) && decide (0 ≤ e.blk ∧ e.blk < 16 ∧ 1 ≤ e.size ∧ e.size ≤ 8 ∧ 0 ≤ e.at_ ∧ e.at_ ≤ 256 - e.size) &&
    decide ((e.rd.length : Int) = (if rdsB e then e.size else 0) ∧ (e.fr.length : Int) = (if rdsB e then e.size else 0) ∧ (e.wr.length : Int) = (if wrsB e then e.size else 0))
/-- Does byte i of event n read what was written? -/
def evRead1 (L : List Ev) (n i : Nat) : Bool :=
  let w := (evn L n).fr.getD i 0
  let x := (evn L n).rd.getD i 0
  if w = -1 then decide (x = 0)
  else if w < 0 ∨ (n : Int) ≤ w then false
  else wrsB (evn L w.toNat) && evCov (evn L w.toNat) (evn L n).blk ((evn L n).at_ + i) && ((evn L w.toNat).wr.getD ((evn L n).at_ + i - (evn L w.toNat).at_).toNat 0 == x)
def evReads (L : List Ev) (n : Nat) : Bool := (List.range (evn L n).fr.length).all fun i => evRead1 L n i
def evOk1 (L : List Ev) (n : Nat) : Bool := decide (0 ≤ (evn L n).ag ∧ (evn L n).ag < 64) && evFields (evn L n) && evReads L n
def prOk (n : Nat) (p : Int × Int) : Bool := decide (0 ≤ p.1 ∧ p.1 < p.2 ∧ p.2 < (n : Int))
def mayL (L : Lg) : Bool := decide (L.ev.length ≤ 1000 ∧ L.pr.length ≤ 1000) && ((List.range L.ev.length).all fun n => evOk1 L.ev n) && L.pr.all (prOk L.ev.length)

def prn (l : List (Int × Int)) (i : Nat) : Int × Int := l.getD i (0, 0)
theorem prn_eq {l : List (Int × Int)} {i : Nat} (h : i < l.length) : prn l i = l[i] := by simp [prn, h]

theorem mayL_iff {L : Lg} : mayL L = true ↔ (L.ev.length ≤ 1000 ∧ L.pr.length ≤ 1000) ∧ (∀ n, n < L.ev.length → evOk1 L.ev n = true) ∧ ∀ i, i < L.pr.length → prOk L.ev.length (prn L.pr i) = true := by
  unfold mayL
  simp only [Bool.and_eq_true, decide_eq_true_eq, List.all_eq_true, List.mem_range, and_assoc]
  refine and_congr_right fun _ => and_congr_right fun _ => and_congr_right fun _ => ⟨fun h i hi => ?_, fun h p hp => ?_⟩
  · rw [prn_eq hi]; exact h _ (List.getElem_mem hi)
  · obtain ⟨i, hi, rfl⟩ := List.getElem_of_mem hp
    have := h i hi
    rwa [prn_eq hi] at this
theorem evOk1_fields {L : List Ev} {n : Nat} (h : evOk1 L n = true) : evFields (evn L n) = true := by
  unfold evOk1 at h
  simp only [Bool.and_eq_true] at h
  exact h.1.2
theorem evReads_iff {L : List Ev} {n : Nat} : evReads L n = true ↔ ∀ i, i < (evn L n).fr.length → evRead1 L n i = true := by
  unfold evReads
  simp only [List.all_eq_true, List.mem_range]
theorem evOk1_reads {L : List Ev} {n : Nat} (h : evOk1 L n = true) : ∀ i, i < (evn L n).fr.length → evRead1 L n i = true := by
  unfold evOk1 at h
  simp only [Bool.and_eq_true] at h
  exact evReads_iff.1 h.2

/-- What an event with its kind's fields has. -/
theorem evFields_sizes {e : Ev} (h : evFields e = true) : e.fr.length ≤ 8 ∧ e.rd.length = e.fr.length ∧ 0 ≤ e.at_ ∧ e.at_ ≤ 256 ∧ 0 ≤ e.size ∧ e.size ≤ 8 ∧ 0 ≤ e.blk ∧ e.blk < 16 ∧ (wrsB e = true → (e.wr.length : Int) = e.size) ∧ (wrsB e = false → e.wr = []) ∧ (rdsB e = true → (e.fr.length : Int) = e.size) ∧ (rdsB e = false → e.fr = []) ∧ 0 ≤ e.kind ∧ e.kind ≤ 3 ∧ e.at_ + e.size ≤ 256 ∧ (e.kind ≠ 0 → 1 ≤ e.size) := by
  unfold evFields at h
  split at h
  · rename_i hk
    simp only [Bool.and_eq_true, decide_eq_true_eq, List.isEmpty_iff] at h
    obtain ⟨⟨⟨⟨⟨_, _⟩, h1, h2, h3⟩, h4⟩, h5⟩, h6⟩ := h
    have hw : wrsB e = false := by unfold wrsB; simp [hk]
    have hr : rdsB e = false := by unfold rdsB; simp [hk]
    rw [h4, h5, h6, h1, h2, h3, hk, hw, hr]
    simp
  · rename_i hk
    simp only [Bool.and_eq_true, decide_eq_true_eq] at h
    obtain ⟨⟨⟨h1, _⟩, h2⟩, h3, h4, h5⟩ := h
    have hz : ∀ b : Bool, (if b = true then e.size else 0) ≤ 8 ∧ 0 ≤ (if b = true then e.size else 0) := fun b => by cases b <;> simp <;> omega
    have z1 := hz (rdsB e)
    refine ⟨by omega, by omega, by omega, by omega, by omega, by omega, by omega, by omega, fun hw => ?_, fun hw => ?_, fun hr => ?_, fun hr => ?_, by omega, by omega, by omega, fun _ => by omega⟩
    · rw [hw, if_pos rfl] at h5; exact h5
    · rw [hw, if_neg (by simp)] at h5; exact List.eq_nil_of_length_eq_zero (by omega)
    · rw [hr, if_pos rfl] at h4; exact h4
    · rw [hr, if_neg (by simp)] at h4; exact List.eq_nil_of_length_eq_zero (by omega)
end Go.Ren
namespace Go.Ren
set_option linter.unusedVariables false
/-- The word of bytes, the least first. -/
def wordN : List UInt8 → Nat
  | [] => 0
  | b :: l => b.toNat + 256 * wordN l
theorem wordN_lt : ∀ l : List UInt8, wordN l < 2 ^ (8 * l.length)
  | [] => by simp [wordN]
  | b :: l => by
    have ih := wordN_lt l
    have hb := UInt8.toNat_lt b
    have e : 2 ^ (8 * (b :: l).length) = 256 * 2 ^ (8 * l.length) := by
      rw [List.length_cons, Nat.mul_add, Nat.mul_one, Nat.add_comm, Nat.pow_add]
    rw [e]
    unfold wordN
    omega
theorem wordN_inj : ∀ a b : List UInt8, a.length = b.length → wordN a = wordN b → a = b
  | [], [], _, _ => rfl
  | [], _ :: _, h, _ => by simp at h
  | _ :: _, [], h, _ => by simp at h
  | x :: a, y :: b, h, hw => by
    have hx := UInt8.toNat_lt x
    have hy := UInt8.toNat_lt y
    unfold wordN at hw
    have h1 : x.toNat = y.toNat := by omega
    have h2 : wordN a = wordN b := by omega
    have h3 : x = y := UInt8.toNat_inj.1 h1
    rw [h3, wordN_inj a b (by simpa using h) h2]
theorem wordN_drop {l : List UInt8} {k : Nat} (h : k < l.length) : wordN (l.drop k) = l[k].toNat + 256 * wordN (l.drop (k + 1)) := by
  rw [List.drop_eq_getElem_cons h]; rfl
end Go.Ren
namespace Go.Ren
set_option linter.unusedVariables false
def kindC (s : Int) : Int := if s = 1 then 2 else if s = 2 then 4 else if s = 4 then 6 else if s = 8 then 8 else 0
def goodB (s : Int) : Bool := decide (s = 1 ∨ s = 2 ∨ s = 4 ∨ s = 8)
theorem kindC_good (s : Int) : (kindC s == 0) = !goodB s := by
  unfold kindC goodB
  rw [Bool.eq_iff_iff]
  split <;> (try split) <;> (try split) <;> (try split) <;> simp <;> omega
theorem goodB_le {s : Int} (h : goodB s = true) : 1 ≤ s ∧ s ≤ 8 := by unfold goodB at h; simp at h; omega
def ldE (b a s : Int) : Ev := ⟨0, 1, false, false, b, a, s, [], [], []⟩
/-- Is an event unclean for a cell? -/
def cl1 (e x : Ev) : Bool := evOver e x && (!e.seq || !evEq e x)
def cleanB (L : Lg) (x : Ev) : Bool := mayL L && goodB x.size && (List.range L.ev.length).all fun i => !cl1 (evn L.ev i) x
theorem clean_no {L : Lg} {x : Ev} (h : mayL L = false ∨ goodB x.size = false) : cleanB L x = false := by
  unfold cleanB; rcases h with h | h <;> rw [h] <;> simp
theorem clean_yes {L : Lg} {x : Ev} (h1 : mayL L = true) (h2 : goodB x.size = true) (h : ∀ j, j < L.ev.length → cl1 (evn L.ev j) x = false) : cleanB L x = true := by
  unfold cleanB
  rw [h1, h2, Bool.true_and, Bool.true_and, List.all_eq_true]
  intro j hj
  rw [h j (List.mem_range.1 hj)]; rfl
theorem clean_hit {L : Lg} {x : Ev} {r : Nat} (hr : r < L.ev.length) (h : cl1 (evn L.ev r) x = true) : cleanB L x = false := by
  unfold cleanB
  cases hm : mayL L <;> cases hg : goodB x.size <;> try rfl
  rw [Bool.true_and, Bool.true_and]
  cases ha : (List.range L.ev.length).all fun i => !cl1 (evn L.ev i) x with
  | false => rfl
  | true =>
    rw [List.all_eq_true] at ha
    have := ha r (List.mem_range.2 hr)
    rw [h] at this; cases this
theorem clean_facts {L : Lg} {x : Ev} (h : cleanB L x = true) : mayL L = true ∧ goodB x.size = true := by
  unfold cleanB at h
  simp only [Bool.and_eq_true] at h
  exact h.1
/-- The cell's bytes behind so many events. -/
def repS (L : Lg) (x : Ev) : Nat → List UInt8
  | 0 => List.replicate x.size.toNat 0
  | k + 1 => if (evEq (evn L.ev k) x && wrsB (evn L.ev k)) = true then (evn L.ev k).wr else repS L x k
def rep1 (L : Lg) (x : Ev) (k : Nat) : Bool := evEq (evn L.ev k) x && (rdsB (evn L.ev k) && !((evn L.ev k).rd == repS L x k))
def repB (L : Lg) (x : Ev) : Bool := cleanB L x && (List.range L.ev.length).all fun k => !rep1 L x k
theorem rep_no {L : Lg} {x : Ev} (h : cleanB L x = false) : repB L x = false := by unfold repB; rw [h]; rfl
theorem rep_yes {L : Lg} {x : Ev} (h1 : cleanB L x = true) (h : ∀ j, j < L.ev.length → rep1 L x j = false) : repB L x = true := by
  unfold repB
  rw [h1, Bool.true_and, List.all_eq_true]
  intro j hj
  rw [h j (List.mem_range.1 hj)]; rfl
theorem rep_hit {L : Lg} {x : Ev} {r : Nat} (hr : r < L.ev.length) (h : rep1 L x r = true) : repB L x = false := by
  unfold repB
  cases hm : cleanB L x <;> try rfl
  rw [Bool.true_and]
  cases ha : (List.range L.ev.length).all fun i => !rep1 L x i with
  | false => rfl
  | true =>
    rw [List.all_eq_true] at ha
    have := ha r (List.mem_range.2 hr)
    rw [h] at this; cases this
theorem rep_skip {L : Lg} {x : Ev} {r : Nat} (h : evEq (evn L.ev r) x = false) : rep1 L x r = false ∧ repS L x (r + 1) = repS L x r := by
  refine ⟨by unfold rep1; rw [h]; rfl, ?_⟩
  show (if (evEq (evn L.ev r) x && wrsB (evn L.ev r)) = true then _ else _) = _
  rw [h]; rfl
theorem rep_next {L : Lg} {x : Ev} {r : Nat} (h : evEq (evn L.ev r) x = true) : repS L x (r + 1) = if wrsB (evn L.ev r) = true then (evn L.ev r).wr else repS L x r := by
  show (if (evEq (evn L.ev r) x && wrsB (evn L.ev r)) = true then _ else _) = _
  rw [h, Bool.true_and]
theorem rep_len {L : Lg} {x : Ev} (h : cleanB L x = true) : ∀ k, k ≤ L.ev.length → ((repS L x k).length : Int) = x.size ∧ x.size ≤ 8
  | 0, _ => by
    have h1 := (clean_facts h).2
    unfold goodB at h1
    simp only [decide_eq_true_eq] at h1
    show ((List.replicate x.size.toNat (0 : UInt8)).length : Int) = _ ∧ _
    rw [List.length_replicate]
    omega
  | k + 1, hk => by
    have ih := rep_len h k (by omega)
    have hf := evFields_sizes (evOk1_fields ((mayL_iff.1 (clean_facts h).1).2.1 k (by omega)))
    cases hq : evEq (evn L.ev k) x with
    | false => rw [(rep_skip hq).2]; exact ih
    | true =>
      rw [rep_next hq]
      cases hw : wrsB (evn L.ev k) with
      | false => rw [if_neg (by simp)]; exact ih
      | true =>
        rw [if_pos rfl]
        have h1 := hf.2.2.2.2.2.2.2.2.1 hw
        unfold evEq at hq
        simp only [decide_eq_true_eq] at hq
        refine ⟨by rw [h1]; exact hq.2.2.2.2, ih.2⟩
theorem rd_len {L : Lg} {x : Ev} (h : cleanB L x = true) {k : Nat} (hk : k < L.ev.length) (hq : evEq (evn L.ev k) x = true) (hr : rdsB (evn L.ev k) = true) : ((evn L.ev k).rd.length : Int) = x.size := by
  have hf := evFields_sizes (evOk1_fields ((mayL_iff.1 (clean_facts h).1).2.1 k hk))
  have h1 := hf.2.2.2.2.2.2.2.2.2.2.1 hr
  unfold evEq at hq
  simp only [decide_eq_true_eq] at hq
  rw [hf.2.1, h1]; exact hq.2.2.2.2
theorem wr_len {L : Lg} {x : Ev} (h : cleanB L x = true) {k : Nat} (hk : k < L.ev.length) : (evn L.ev k).wr.length ≤ 8 ∧ (evn L.ev k).rd.length ≤ 8 := by
  have hf := evFields_sizes (evOk1_fields ((mayL_iff.1 (clean_facts h).1).2.1 k hk))
  refine ⟨?_, by omega⟩
  cases hw : wrsB (evn L.ev k) with
  | false => rw [hf.2.2.2.2.2.2.2.2.2.1 hw]; simp
  | true => have := hf.2.2.2.2.2.2.2.2.1 hw; omega
/-- Words of one length tell the bytes. -/
theorem rep_word {L : Lg} {x : Ev} (h : cleanB L x = true) {k : Nat} (hk : k < L.ev.length) (hq : evEq (evn L.ev k) x = true) (hr : rdsB (evn L.ev k) = true) : (((wordN (evn L.ev k).rd : Nat) : Int) != ((wordN (repS L x k) : Nat) : Int)) = !((evn L.ev k).rd == repS L x k) := by
  have h1 := rd_len h hk hq hr
  have h2 := (rep_len h k (by omega)).1
  rw [Bool.eq_iff_iff]
  simp only [bne_iff_ne, ne_eq, Bool.not_eq_true', beq_eq_false_iff_ne, Int.ofNat_inj]
  constructor
  · exact fun hn e => hn (by rw [e])
  · exact fun hn e => hn (wordN_inj _ _ (by omega) e)
theorem rep1_of {L : Lg} {x : Ev} {k : Nat} {b c : Bool} (hq : evEq (evn L.ev k) x = true) (hr : rdsB (evn L.ev k) = b) (hc : ((evn L.ev k).rd == repS L x k) = c) : rep1 L x k = (b && !c) := by
  unfold rep1; rw [hq, hr, hc, Bool.true_and]
end Go.Ren
namespace Go.Ren
open Go.RowKit
set_option linter.unusedVariables false
theorem u64_wrap_nat {m : Nat} (h : m < 18446744073709551616) : IntKind.u64.wrap (m : Int) = m := by
  rw [IntKind.wrap_u64]; omega
theorem or_lt64 {m k : Nat} (hm : m < 18446744073709551616) (hk : k < 18446744073709551616) : m ||| k < 18446744073709551616 := Nat.or_lt_two_pow (n := 64) hm hk
theorem pow_lt64 {b : Nat} (h : b < 64) : 2 ^ b < 18446744073709551616 := by
  have := Nat.pow_lt_pow_right (a := 2) (by decide) h
  simpa using this
theorem bits64 : IntKind.u64.bits = 64 := rfl
section
variable {P : Program}
theorem run_or64 (T : TypeId) {m k : Nat} (hm : m < 18446744073709551616) (hk : k < 18446744073709551616) (w : World) : (binOp .or T (.int .u64 (m : Int)) (.int .u64 (k : Int))).run P w = .ok (.int .u64 ((m ||| k : Nat) : Int)) w := by
  simp only [binOp, Op.intBits]
  simp
  rw [bits64, show (2 : Nat) ^ 64 = 18446744073709551616 from rfl, Nat.mod_eq_of_lt hm, Nat.mod_eq_of_lt hk]
  exact u64_wrap_nat (or_lt64 hm hk)
theorem run_shl64 (T : TypeId) {b : Nat} (hb : b < 64) (w : World) : (binOp .shl T (.int .u64 1) (.int .i64 (b : Int))).run P w = .ok (.int .u64 ((2 ^ b : Nat) : Int)) w := by
  simp only [binOp, Op.shift]
  have h0 : ¬ (b : Int) < 0 := by omega
  have hm : min b 64 = b := by omega
  simp [h0, bits64, hm]
  have := u64_wrap_nat (pow_lt64 hb)
  simpa using this
theorem run_shr64 (T : TypeId) {m b : Nat} (hb : b < 64) (w : World) : (binOp .shr T (.int .u64 (m : Int)) (.int .i64 (b : Int))).run P w = .ok (.int .u64 ((m >>> b : Nat) : Int)) w := by
  simp only [binOp, Op.shift]
  have h0 : ¬ (b : Int) < 0 := by omega
  have hm : min b 64 = b := by omega
  simp only [h0, if_false, bits64, Int.toNat_natCast, hm, Sem.run_pure]
  rw [Int.fdiv_eq_ediv_of_nonneg _ (by exact_mod_cast Nat.zero_le _), Nat.shiftRight_eq_div_pow]
  simp
theorem run_and1 (T : TypeId) {m : Nat} (hm : m < 18446744073709551616) (w : World) : (binOp .and T (.int .u64 (m : Int)) (.int .u64 1)).run P w = .ok (.int .u64 ((m % 2 : Nat) : Int)) w := by
  simp only [binOp, Op.intBits]
  simp
  rw [bits64, show (2 : Nat) ^ 64 = 18446744073709551616 from rfl, Nat.mod_eq_of_lt hm]
  have e : m &&& 1 % 18446744073709551616 = m % 2 := Nat.and_one_is_mod m
  rw [e]
  have := u64_wrap_nat (m := m % 2) (by omega)
  simpa using this
end
theorem shr_lt64 {m b : Nat} (hm : m < 18446744073709551616) : m >>> b < 18446744073709551616 := Nat.lt_of_le_of_lt (Nat.shiftRight_le m b) hm
theorem bit_of (m b : Nat) : (((m >>> b % 2 : Nat) : Int) == 1) = m.testBit b := by
  rw [Nat.testBit_eq_decide_div_mod_eq, Bool.eq_iff_iff, Nat.shiftRight_eq_div_pow]
  simp only [beq_iff_eq, decide_eq_true_eq]
  omega
theorem bits_and1 {m : Nat} (hm : m < 18446744073709551616) : bits .and .u64 (m : Int) 1 = ((m % 2 : Nat) : Int) := by
  simp [bits]
  rw [bits64, show (2 : Nat) ^ 64 = 18446744073709551616 from rfl, Nat.mod_eq_of_lt hm]
  have e : m &&& 1 % 18446744073709551616 = m % 2 := Nat.and_one_is_mod m
  rw [e]
  have := u64_wrap_nat (m := m % 2) (by omega)
  simpa using this
theorem bits_or64 {m k : Nat} (hm : m < 18446744073709551616) (hk : k < 18446744073709551616) : bits .or .u64 (m : Int) (k : Int) = ((m ||| k : Nat) : Int) := by
  simp [bits]
  rw [bits64, show (2 : Nat) ^ 64 = 18446744073709551616 from rfl, Nat.mod_eq_of_lt hm, Nat.mod_eq_of_lt hk]
  exact u64_wrap_nat (or_lt64 hm hk)
theorem div_shr (m b : Nat) : (m : Int) / 2 ^ b = ((m >>> b : Nat) : Int) := by
  rw [Nat.shiftRight_eq_div_pow]; simp
theorem bits_bit {m : Nat} (hm : m < 18446744073709551616) (b : Nat) : (bits .and .u64 ((m : Int) / 2 ^ b) 1 == 1) = m.testBit b := by
  rw [div_shr, bits_and1 (shr_lt64 hm)]; exact bit_of m b
theorem testBit_put (m b j : Nat) : (m ||| 2 ^ b).testBit j = (m.testBit j || decide (b = j)) := by
  rw [Nat.testBit_or, Nat.testBit_two_pow]
end Go.Ren
namespace Go.Ren
open Go.RowKit
set_option linter.unusedVariables false

theorem splice_cons {α : Type} (L : List α) (off : Nat) (v : α) (vs : List α) (h : off + (vs.length + 1) ≤ L.length) : splice L off (v :: vs) = splice (L.set off v) (off + 1) vs := by
  apply List.ext_getElem?
  intro j
  rw [splice_get _ _ _ (by simpa using h), splice_get _ _ _ (by simp; omega), List.getElem?_set]
  by_cases h1 : j = off
  · subst h1
    rw [if_pos (by simp), if_neg (by omega), if_pos rfl, if_pos (by omega), Nat.sub_self]; rfl
  · by_cases h2 : off ≤ j ∧ j < off + (vs.length + 1)
    · rw [if_pos (by simpa using h2), if_pos (by omega)]
      rw [show j - off = (j - (off + 1)) + 1 by omega]; rfl
    · rw [if_neg (by simpa using h2), if_neg (by omega), if_neg (by omega)]

theorem Own.setCells {e sz g n cap : Nat} (hn : 0 < n) : ∀ (vs : List Value) (off : Nat) (w : World) (xs : List Value), Own w e sz (.slice (some ⟨g, 0, none⟩) n cap) n xs → off + vs.length ≤ n * sz →
    Own (w.setCells g off vs) e sz (.slice (some ⟨g, 0, none⟩) n cap) n (splice xs off vs)
  | [], off, w, xs, h, _ => by rw [splice_nil]; exact h
  | v :: vs, off, w, xs, h, hl => by
    have hx : xs.length = n * sz := h.1
    rw [splice_cons _ _ _ _ (by simp at hl; omega)]
    have h2 := h.set hn off v
    rw [at_own] at h2
    exact Own.setCells hn vs (off + 1) _ _ h2 (by simp at hl; omega)
theorem Mod.setCells {F : Nat → Prop} {a : World} {g : Nat} (hg : F g ∨ a.heap.size ≤ g) : ∀ (vs : List Value) (off : Nat) (b : World), Mod F a b → Mod F a (b.setCells g off vs)
  | [], _, _, h => h
  | v :: vs, off, b, h => Mod.setCells hg vs (off + 1) _ (h.setCell hg v)
end Go.Ren
