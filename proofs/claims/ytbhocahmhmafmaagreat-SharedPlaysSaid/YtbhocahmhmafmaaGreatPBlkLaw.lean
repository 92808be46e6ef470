/-
  What the store buffers' calls compute, on plain lists. No condition, no program. What the blocks' calls compute, on plain lists. No condition, no program. What Flush, Tear, Drain of a store buffer compute, on plain lists. No condition, no program. The plain law of renlaw19.FifoParts. No condition, no program. Plain facts on blocks that are written and read whole. No condition, no program. The plain law of renlaw19.FifoSees: what lies over the block's bytes stays under a flush, a tear, a drain. No condition, no program. What the calls of package event compute, on plain lists. No condition, no program. Bytes as words: laws. No condition, no program. What cells compute, on plain lists. No condition, no program. Words of 64 bits: what the program's operations on them give. Over any program. No condition. Laws for slices.Delete: cells written in a row; append onto a row's head in place; clear. No condition, no program. The plain law of renlaw14.EventTurns. No condition, no program.
-/
import Derived.Test.YtbhocahmhmafmaaGreatPLib
import Derived.ArgAppend
import Derived.Lib.SliceRun
namespace Go.Ren
set_option linter.unusedVariables false
structure Ent where
 blk : Int
 at_ : Int
 b : List UInt8
 by_ : Int
 tears : Bool
def ent (E : List Ent) (i : Nat) : Ent := E.getD i ⟨0, 0, [], 0, false⟩
theorem ent_eq {E : List Ent} {i : Nat} (h : i < E.length) : ent E i = E[i] := by simp [ent, h]
theorem ent_snoc_lt {E : List Ent} {e : Ent} {i : Nat} (h : i < E.length) : ent (E ++ [e]) i = ent E i := by simp [ent, List.getElem?_append_left h]
theorem ent_snoc {E : List Ent} {e : Ent} : ent (E ++ [e]) E.length = e := by simp [ent]
structure EOk (e : Ent) : Prop where
 blk : 0 ≤ e.blk ∧ e.blk ≤ 9223372036854775807
 at_ : 0 ≤ e.at_ ∧ e.at_ + e.b.length ≤ 264
 by_ : 0 ≤ e.by_ ∧ e.by_ ≤ 9223372036854775807
 len : 1 ≤ e.b.length ∧ e.b.length ≤ 8
def qputE (room : Nat) (E : List Ent) (e : Ent) : Int :=
 if e.blk < 0 ∨ e.at_ < 0 ∨ e.by_ < 0 ∨ 256 < e.at_ ∨ e.b.length < 1 ∨ 8 < e.b.length then 1 else if room ≤ E.length then 11 else 0
def qput (room : Nat) (E : List Ent) (e : Ent) : List Ent := if qputE room E e = 0 then E ++ [e] else E
theorem qputE_0 {room : Nat} {E : List Ent} {e : Ent} (h : qputE room E e = 0) : 0 ≤ e.blk ∧ 0 ≤ e.at_ ∧ 0 ≤ e.by_ ∧ e.at_ ≤ 256 ∧ 1 ≤ e.b.length ∧ e.b.length ≤ 8 ∧ E.length < room := by
 unfold qputE at h
 split at h
 · omega
 · split at h
   · omega
   · omega
def layB (at_ : Int) (x : List UInt8) (a : Int) (b : List UInt8) : List UInt8 := b.mapIdx fun j u => if at_ ≤ a + j then (x[(a + j - at_).toNat]?).getD u else u
def layY (at_ : Int) (n : Nat) (by_ : Int) (a : Int) (y : List Int) : List Int := y.mapIdx fun j u => if at_ ≤ a + j ∧ a + j < at_ + n then by_ else u
def overB (E : List Ent) (k a : Int) (b : List UInt8) : List UInt8 := E.foldl (fun b e => if e.blk = k then layB e.at_ e.b a b else b) b
def overY (E : List Ent) (k a : Int) (y : List Int) : List Int := E.foldl (fun y e => if e.blk = k then layY e.at_ e.b.length e.by_ a y else y) y
def qoverB (E : List Ent) (k a : Int) (b : List UInt8) (y : List Int) : List UInt8 := if b.length = y.length then overB E k a b else b
def qoverY (E : List Ent) (k a : Int) (b : List UInt8) (y : List Int) : List Int := if b.length = y.length then overY E k a y else y
theorem layB_len (at_ : Int) (x : List UInt8) (a : Int) (b : List UInt8) : (layB at_ x a b).length = b.length := by simp [layB]
theorem layY_len (at_ : Int) (n : Nat) (by_ a : Int) (y : List Int) : (layY at_ n by_ a y).length = y.length := by simp [layY]
theorem layB_nil (at_ : Int) (a : Int) (b : List UInt8) : layB at_ [] a b = b := by
 apply List.ext_getElem?
 intro j
 simp [layB, List.getElem?_mapIdx]
theorem layY_nil (at_ by_ : Int) (a : Int) (y : List Int) : layY at_ 0 by_ a y = y := by
 apply List.ext_getElem?
 intro j
 unfold layY
 rw [List.getElem?_mapIdx]
 cases y[j]? with
 | none => rfl
 | some u => rw [Option.map_some, if_neg (by omega)]
theorem layB_get {at_ : Int} {x : List UInt8} {a : Int} {b : List UInt8} {j : Nat} : (layB at_ x a b)[j]? = (b[j]?).map fun u => if at_ ≤ a + j then (x[(a + j - at_).toNat]?).getD u else u := by simp [layB]
theorem layY_get {at_ : Int} {n : Nat} {by_ a : Int} {y : List Int} {j : Nat} : (layY at_ n by_ a y)[j]? = (y[j]?).map fun u => if at_ ≤ a + j ∧ a + j < at_ + n then by_ else u := by simp [layY]
theorem layB_in {at_ : Int} {x : List UInt8} {a : Int} {b : List UInt8} {k i : Nat} (hk : k < x.length) (hi : at_ + k - a = i) (hl : i < b.length) : layB at_ (x.take (k + 1)) a b = (layB at_ (x.take k) a b).set i x[k] := by
 apply List.ext_getElem?
 intro j
 rw [List.getElem?_set, layB_get, layB_get, layB_len]
 by_cases e : i = j
 · subst e
   rw [if_pos rfl, if_pos hl, List.getElem?_eq_getElem hl, Option.map_some, if_pos (by omega)]
   rw [show (a + (i : Int) - at_).toNat = k by omega, List.getElem?_take, if_pos (by omega), List.getElem?_eq_getElem hk]; rfl
 · rw [if_neg e]
   congr 1; funext u
   by_cases h : at_ ≤ a + j
   · rw [if_pos h, if_pos h]
     have hne : (a + (j : Int) - at_).toNat ≠ k := by omega
     rw [List.getElem?_take, List.getElem?_take]
     by_cases h2 : (a + (j : Int) - at_).toNat < k
     · rw [if_pos h2, if_pos (by omega)]
     · rw [if_neg h2, if_neg (by omega)]
   · rw [if_neg h, if_neg h]
theorem layB_out {at_ : Int} {x : List UInt8} {a : Int} {b : List UInt8} {k : Nat} (h : at_ + k < a ∨ a + b.length ≤ at_ + k) : layB at_ (x.take (k + 1)) a b = layB at_ (x.take k) a b := by
 apply List.ext_getElem?
 intro j
 rw [layB_get, layB_get]
 by_cases hj : j < b.length
 · congr 1; funext u
   by_cases h1 : at_ ≤ a + j
   · rw [if_pos h1, if_pos h1, List.getElem?_take, List.getElem?_take]
     by_cases h2 : (a + (j : Int) - at_).toNat < k
     · rw [if_pos h2, if_pos (by omega)]
     · rw [if_neg h2, if_neg (by omega)]
   · rw [if_neg h1, if_neg h1]
 · have e : b[j]? = none := List.getElem?_eq_none (by omega)
   rw [e]; rfl
theorem layY_in {at_ by_ a : Int} {y : List Int} {k i : Nat} (hi : at_ + k - a = i) (hl : i < y.length) : layY at_ (k + 1) by_ a y = (layY at_ k by_ a y).set i by_ := by
 apply List.ext_getElem?
 intro j
 rw [List.getElem?_set, layY_get, layY_get, layY_len]
 by_cases e : i = j
 · subst e
   rw [if_pos rfl, if_pos hl, List.getElem?_eq_getElem hl, Option.map_some, if_pos (by omega)]
 · rw [if_neg e]
   congr 1; funext u
   by_cases h : at_ ≤ a + j ∧ a + j < at_ + k
   · rw [if_pos h, if_pos (by omega)]
   · rw [if_neg h, if_neg (by omega)]
theorem layY_out {at_ by_ a : Int} {y : List Int} {k : Nat} (h : at_ + k < a ∨ a + y.length ≤ at_ + k) : layY at_ (k + 1) by_ a y = layY at_ k by_ a y := by
 apply List.ext_getElem?
 intro j
 rw [layY_get, layY_get]
 by_cases hj : j < y.length
 · congr 1; funext u
   by_cases h1 : at_ ≤ a + j ∧ a + j < at_ + k
   · rw [if_pos h1, if_pos (by omega)]
   · rw [if_neg h1, if_neg (by omega)]
 · have e : y[j]? = none := List.getElem?_eq_none (by omega)
   rw [e]; rfl
theorem overB_len (E : List Ent) (k a : Int) (b : List UInt8) : (overB E k a b).length = b.length := by
 unfold overB
 induction E generalizing b with
 | nil => rfl
 | cons e E ih =>
  rw [List.foldl_cons, ih]
  split
  · exact layB_len _ _ _ _
  · rfl
theorem overY_len (E : List Ent) (k a : Int) (y : List Int) : (overY E k a y).length = y.length := by
 unfold overY
 induction E generalizing y with
 | nil => rfl
 | cons e E ih =>
  rw [List.foldl_cons, ih]
  split
  · exact layY_len _ _ _ _ _
  · rfl
theorem overB_snoc (E : List Ent) (i : Nat) (h : i < E.length) (k a : Int) (b : List UInt8) : overB (E.take (i + 1)) k a b = if (ent E i).blk = k then layB (ent E i).at_ (ent E i).b a (overB (E.take i) k a b) else overB (E.take i) k a b := by
 unfold overB
 rw [List.take_succ_eq_append_getElem h, List.foldl_append, ent_eq h]; rfl
theorem overY_snoc (E : List Ent) (i : Nat) (h : i < E.length) (k a : Int) (y : List Int) : overY (E.take (i + 1)) k a y = if (ent E i).blk = k then layY (ent E i).at_ (ent E i).b.length (ent E i).by_ a (overY (E.take i) k a y) else overY (E.take i) k a y := by
 unfold overY
 rw [List.take_succ_eq_append_getElem h, List.foldl_append, ent_eq h]; rfl
theorem layY_ok {at_ by_ a : Int} {n : Nat} {y : List Int} (h : ∀ x ∈ y, I64 x) (hb : I64 by_) : ∀ x ∈ layY at_ n by_ a y, I64 x := by
 intro x hx
 obtain ⟨i, hi, rfl⟩ := List.getElem_of_mem hx
 have h1 : (layY at_ n by_ a y)[i]? = some (layY at_ n by_ a y)[i] := List.getElem?_eq_getElem hi
 rw [layY_get] at h1
 obtain ⟨u, hu, e⟩ := Option.map_eq_some_iff.1 h1
 rw [← e]
 split
 · exact hb
 · exact h u (List.mem_of_getElem? hu)
theorem overY_ok {E : List Ent} (hE : ∀ e ∈ E, I64 e.by_) {k a : Int} {y : List Int} (h : ∀ x ∈ y, I64 x) : ∀ x ∈ overY E k a y, I64 x := by
 unfold overY
 induction E generalizing y with
 | nil => exact h
 | cons e E ih =>
  rw [List.foldl_cons]
  refine ih (fun e' he' => hE e' (by simp [he'])) ?_
  split
  · exact layY_ok h (hE e (by simp))
  · exact h
end Go.Ren
namespace Go.Ren
structure Blk where
 b : List UInt8
 y : List Int
def blk (m : List Blk) (i : Nat) : Blk := m.getD i ⟨[], []⟩
theorem blk_eq {m : List Blk} {i : Nat} (h : i < m.length) : blk m i = m[i] := by simp [blk, h]
structure BOk (m : List Blk) : Prop where
 cnt : m.length ≤ 16
 len : ∀ i, i < m.length → (blk m i).y.length = (blk m i).b.length
 top : ∀ i, i < m.length → (blk m i).b.length ≤ 256
 ok : ∀ i, i < m.length → ∀ x ∈ (blk m i).y, I64 x
def bsize (m : List Blk) (k : Int) : Int := if 0 ≤ k ∧ k < (m.length : Int) then ((blk m k.toNat).b.length : Int) else -1
def bcheck (m : List Blk) (k at_ n : Int) : Int := if bsize m k < 0 then 9 else if at_ < 0 ∨ n < 0 ∨ bsize m k < at_ ∨ bsize m k - at_ < n then 1 else 0
def bmakeE (m : List Blk) (size : Int) : Int := if size < 0 ∨ 256 < size then 1 else if 16 ≤ m.length then 11 else 0
def newBlk (size : Nat) : Blk := ⟨List.replicate size 0, List.replicate size (-1)⟩
def bmake (m : List Blk) (size : Int) : List Blk := if bmakeE m size = 0 then m ++ [newBlk size.toNat] else m
def bmakeN (m : List Blk) (size : Int) : Int := if bmakeE m size = 0 then (m.length : Int) else 0
def breadB (m : List Blk) (k at_ n : Int) : List UInt8 := if bcheck m k at_ n = 0 then cut (blk m k.toNat).b at_.toNat n.toNat else []
def breadY (m : List Blk) (k at_ n : Int) : List Int := if bcheck m k at_ n = 0 then cut (blk m k.toNat).y at_.toNat n.toNat else []
def wBlk (B : Blk) (a : Nat) (x : List UInt8) (by_ : Int) : Blk := ⟨splice B.b a x, splice B.y a (List.replicate x.length by_)⟩
def bwrite (m : List Blk) (k at_ : Int) (x : List UInt8) (by_ : Int) : List Blk :=
 if bcheck m k at_ x.length = 0 then m.set k.toNat (wBlk (blk m k.toNat) at_.toNat x by_) else m
theorem bcheck_0 {m : List Blk} {k a n : Int} (h : bcheck m k a n = 0) : 0 ≤ k ∧ k < (m.length : Int) ∧ 0 ≤ a ∧ 0 ≤ n ∧ a + n ≤ ((blk m k.toNat).b.length : Int) ∧ bsize m k = ((blk m k.toNat).b.length : Int) := by
 unfold bcheck at h
 by_cases h1 : bsize m k < 0
 · rw [if_pos h1] at h; omega
 · rw [if_neg h1] at h
   split at h
   · omega
   · rename_i h2
     unfold bsize at h1 h2 ⊢
     split at h1
     · rename_i h3
       rw [if_pos h3] at h2 ⊢
       refine ⟨h3.1, h3.2, ?_⟩
       omega
     · omega
theorem bsize_le {m : List Blk} (h : BOk m) (k : Int) : -1 ≤ bsize m k ∧ bsize m k ≤ 256 := by
 unfold bsize
 split
 · rename_i h1; have := h.top k.toNat (by omega); omega
 · omega
end Go.Ren
namespace Go.Ren
set_option linter.unusedVariables false
def qflushM (E : List Ent) (m : List Blk) : List Blk := match E with | [] => m | e :: _ => bwrite m e.blk e.at_ e.b e.by_
def tearsE (e : Ent) : Bool := e.tears && decide (2 ≤ e.b.length)
def tearEnt (e : Ent) : Ent := ⟨e.blk, e.at_ + (e.b.length / 2 : Nat), e.b.drop (e.b.length / 2), e.by_, false⟩
def qtears (E : List Ent) : Bool := match E with | [] => false | e :: _ => tearsE e
def qtear (E : List Ent) : List Ent := match E with | [] => [] | e :: E' => if tearsE e then tearEnt e :: E' else e :: E'
def qtearM (E : List Ent) (m : List Blk) : List Blk := match E with | [] => m | e :: _ => if tearsE e then bwrite m e.blk e.at_ (e.b.take (e.b.length / 2)) e.by_ else m
def qdrainM (E : List Ent) (m : List Blk) : List Blk := E.foldl (fun m e => bwrite m e.blk e.at_ e.b e.by_) m
theorem qdrainM_cons (e : Ent) (E : List Ent) (m : List Blk) : qdrainM (e :: E) m = qdrainM E (qflushM (e :: E) m) := rfl
theorem tearEnt_ok {e : Ent} (h : EOk e) (ht : tearsE e = true) : EOk (tearEnt e) := by
 have h1 := h.at_
 have h2 := h.len
 have h3 : 2 ≤ e.b.length := by simp [tearsE] at ht; exact ht.2
 refine ⟨h.blk, ?_, h.by_, ?_⟩
 · simp only [tearEnt, List.length_drop]; omega
 · simp only [tearEnt, List.length_drop]; omega
theorem ent_cons_succ (e : Ent) (E : List Ent) (i : Nat) : ent (e :: E) (i + 1) = ent E i := by simp [ent]
theorem ent_cons_zero (e : Ent) (E : List Ent) : ent (e :: E) 0 = e := by simp [ent]
theorem flat_drop (sz n : Nat) (f : Nat → Nat → Value) (hs : 0 < sz) : (flat sz (n + 1) f).drop sz = flat sz n (fun i j => f (i + 1) j) := by
 apply List.ext_getElem?
 intro t
 rw [List.getElem?_drop]
 have e : (n + 1) * sz = n * sz + sz := by rw [Nat.add_mul, Nat.one_mul]
 by_cases h : t < n * sz
 · have h3 : (sz + t) / sz = t / sz + 1 := by rw [Nat.add_comm, Nat.add_div_right _ hs]
   have h4 : (sz + t) % sz = t % sz := by rw [Nat.add_comm, Nat.add_mod_right]
   simp [flat, h, show sz + t < (n + 1) * sz by omega, h3, h4]
 · simp [flat, h, show ¬ sz + t < (n + 1) * sz by omega]
end Go.Ren
namespace Go.Ren
set_option linter.unusedVariables false
theorem qover_len (E : List Ent) (k a : Int) (b : List UInt8) (y : List Int) : (qoverB E k a b y).length = b.length ∧ (qoverY E k a b y).length = y.length := by
 unfold qoverB qoverY
 constructor
 · split
   · exact overB_len _ _ _ _
   · rfl
 · split
   · exact overY_len _ _ _ _
   · rfl
theorem qoverY_ok {E : List Ent} (hE : ∀ e ∈ E, I64 e.by_) {k a : Int} {b : List UInt8} {y : List Int} (h : ∀ x ∈ y, I64 x) : ∀ x ∈ qoverY E k a b y, I64 x := by
 unfold qoverY
 split
 · exact overY_ok hE h
 · exact h
end Go.Ren
namespace Go.Ren
set_option linter.unusedVariables false
theorem splice_get {α : Type} (L : List α) (off : Nat) (cs : List α) (h : off + cs.length ≤ L.length) (j : Nat) :
 (splice L off cs)[j]? = if off ≤ j ∧ j < off + cs.length then cs[j - off]? else L[j]? := by
 unfold splice
 have e : (L.take off).length = off := by simp; omega
 by_cases h1 : j < off
 · rw [List.getElem?_append_left (by omega), if_neg (by omega), List.getElem?_take, if_pos h1]
 · rw [List.getElem?_append_right (by omega), e]
   by_cases h2 : j < off + cs.length
   · rw [List.getElem?_append_left (by omega), if_pos (by omega)]
   · rw [List.getElem?_append_right (by omega), if_neg (by omega), List.getElem?_drop]
     congr 1; omega
theorem wBlk_b {B : Blk} {a : Nat} {x : List UInt8} {y : Int} (h : a + x.length ≤ B.b.length) : (wBlk B a x y).b.length = B.b.length := by simp only [wBlk]; exact length_splice _ _ _ h
theorem wBlk_y {B : Blk} {a : Nat} {x : List UInt8} {y : Int} (h : a + x.length ≤ B.y.length) : (wBlk B a x y).y.length = B.y.length := by simp only [wBlk]; exact length_splice _ _ _ (by simpa using h)
end Go.Ren
namespace Go.Ren
set_option linter.unusedVariables false
end Go.Ren
namespace Go.Ren
set_option linter.unusedVariables false
structure Ev where
 ag : Int
 kind : Int
 seq : Bool
 nt : Bool
 blk : Int
 at_ : Int
 size : Int
 rd : List UInt8
 wr : List UInt8
 fr : List Int
structure Lg where
 ev : List Ev
 pr : List (Int × Int)
def ev0 : Ev := ⟨0, 0, false, false, 0, 0, 0, [], [], []⟩
def evn (L : List Ev) (i : Nat) : Ev := L.getD i ev0
theorem evn_eq {L : List Ev} {i : Nat} (h : i < L.length) : evn L i = L[i] := by simp [evn, h]
structure EvI (e : Ev) : Prop where
 ag : I64 e.ag
 kind : I64 e.kind
 blk : I64 e.blk
 at_ : I64 e.at_
 size : I64 e.size
 fr : ∀ x ∈ e.fr, I64 x
def prOk (n : Nat) (p : Int × Int) : Bool := decide (0 ≤ p.1 ∧ p.1 < p.2 ∧ p.2 < (n : Int))
def prn (l : List (Int × Int)) (i : Nat) : Int × Int := l.getD i (0, 0)
theorem prn_eq {l : List (Int × Int)} {i : Nat} (h : i < l.length) : prn l i = l[i] := by simp [prn, h]
end Go.Ren
namespace Go.Ren
set_option linter.unusedVariables false
def wordN : List UInt8 → Nat
 | [] => 0
 | b :: l => b.toNat + 256 * wordN l
theorem wordN_lt : ∀ l : List UInt8, wordN l < 2 ^ (8 * l.length)
 | [] => by simp [wordN]
 | b :: l => by
  have ih := wordN_lt l
  have hb := UInt8.toNat_lt b
  have e : 2 ^ (8 * (b :: l).length) = 256 * 2 ^ (8 * l.length) := by
   rw [List.length_cons, Nat.mul_add, Nat.mul_one, Nat.add_comm, Nat.pow_add]
  rw [e]
  unfold wordN
  omega
theorem wordN_inj : ∀ a b : List UInt8, a.length = b.length → wordN a = wordN b → a = b
 | [], [], _, _ => rfl
 | [], _ :: _, h, _ => by simp at h
 | _ :: _, [], h, _ => by simp at h
 | x :: a, y :: b, h, hw => by
  have hx := UInt8.toNat_lt x
  have hy := UInt8.toNat_lt y
  unfold wordN at hw
  have h1 : x.toNat = y.toNat := by omega
  have h2 : wordN a = wordN b := by omega
  have h3 : x = y := UInt8.toNat_inj.1 h1
  rw [h3, wordN_inj a b (by simpa using h) h2]
theorem wordN_drop {l : List UInt8} {k : Nat} (h : k < l.length) : wordN (l.drop k) = l[k].toNat + 256 * wordN (l.drop (k + 1)) := by
 rw [List.drop_eq_getElem_cons h]; rfl
end Go.Ren
namespace Go.Ren
set_option linter.unusedVariables false
def kindC (s : Int) : Int := if s = 1 then 2 else if s = 2 then 4 else if s = 4 then 6 else if s = 8 then 8 else 0
def goodB (s : Int) : Bool := decide (s = 1 ∨ s = 2 ∨ s = 4 ∨ s = 8)
theorem kindC_good (s : Int) : (kindC s == 0) = !goodB s := by
 unfold kindC goodB
 rw [Bool.eq_iff_iff]
 split <;> (try split) <;> (try split) <;> (try split) <;> simp <;> omega
end Go.Ren
namespace Go.Ren
open Go.RowKit
set_option linter.unusedVariables false
theorem u64_wrap_nat {m : Nat} (h : m < 18446744073709551616) : IntKind.u64.wrap (m : Int) = m := by
 rw [IntKind.wrap_u64]; omega
theorem or_lt64 {m k : Nat} (hm : m < 18446744073709551616) (hk : k < 18446744073709551616) : m ||| k < 18446744073709551616 := Nat.or_lt_two_pow (n := 64) hm hk
theorem pow_lt64 {b : Nat} (h : b < 64) : 2 ^ b < 18446744073709551616 := by
 have := Nat.pow_lt_pow_right (a := 2) (by decide) h
 simpa using this
theorem bits64 : IntKind.u64.bits = 64 := rfl
section
variable {P : Program}
end
theorem bits_or64 {m k : Nat} (hm : m < 18446744073709551616) (hk : k < 18446744073709551616) : bits .or .u64 (m : Int) (k : Int) = ((m ||| k : Nat) : Int) := by
 simp [bits]
 rw [bits64, show (2 : Nat) ^ 64 = 18446744073709551616 from rfl, Nat.mod_eq_of_lt hm, Nat.mod_eq_of_lt hk]
 exact u64_wrap_nat (or_lt64 hm hk)
theorem div_shr (m b : Nat) : (m : Int) / 2 ^ b = ((m >>> b : Nat) : Int) := by
 rw [Nat.shiftRight_eq_div_pow]; simp
end Go.Ren
namespace Go.Ren
open Go.RowKit
set_option linter.unusedVariables false
theorem splice_cons {α : Type} (L : List α) (off : Nat) (v : α) (vs : List α) (h : off + (vs.length + 1) ≤ L.length) : splice L off (v :: vs) = splice (L.set off v) (off + 1) vs := by
 apply List.ext_getElem?
 intro j
 rw [splice_get _ _ _ (by simpa using h), splice_get _ _ _ (by simp; omega), List.getElem?_set]
 by_cases h1 : j = off
 · subst h1
   rw [if_pos (by simp), if_neg (by omega), if_pos rfl, if_pos (by omega), Nat.sub_self]; rfl
 · by_cases h2 : off ≤ j ∧ j < off + (vs.length + 1)
   · rw [if_pos (by simpa using h2), if_pos (by omega)]
     rw [show j - off = (j - (off + 1)) + 1 by omega]; rfl
   · rw [if_neg (by simpa using h2), if_neg (by omega), if_neg (by omega)]
theorem Own.setCells {e sz g n cap : Nat} (hn : 0 < n) : ∀ (vs : List Value) (off : Nat) (w : World) (xs : List Value), Own w e sz (.slice (some ⟨g, 0, none⟩) n cap) n xs → off + vs.length ≤ n * sz →
 Own (w.setCells g off vs) e sz (.slice (some ⟨g, 0, none⟩) n cap) n (splice xs off vs)
 | [], off, w, xs, h, _ => by rw [splice_nil]; exact h
 | v :: vs, off, w, xs, h, hl => by
  have hx : xs.length = n * sz := h.1
  rw [splice_cons _ _ _ _ (by simp at hl; omega)]
  have h2 := h.set hn off v
  rw [at_own] at h2
  exact Own.setCells hn vs (off + 1) _ _ h2 (by simp at hl; omega)
theorem Mod.setCells {F : Nat → Prop} {a : World} {g : Nat} (hg : F g ∨ a.heap.size ≤ g) : ∀ (vs : List Value) (off : Nat) (b : World), Mod F a b → Mod F a (b.setCells g off vs)
 | [], _, _, h => h
 | v :: vs, off, b, h => Mod.setCells hg vs (off + 1) _ (h.setCell hg v)
end Go.Ren
namespace Go.Ren
set_option linter.unusedVariables false
end Go.Ren
