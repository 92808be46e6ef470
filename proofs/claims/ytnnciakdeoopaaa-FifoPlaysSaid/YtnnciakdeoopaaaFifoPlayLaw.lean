/-
  What Flush, Tear, Drain of a store buffer compute, on plain lists. No condition, no program.
-/
import Derived.Test.YtnnciakdeoopaaaFifoLaw
import Derived.Test.YtnnciakdeoopaaaBlkLaw
namespace Go.Ren
set_option linter.unusedVariables false

def qflushM (E : List Ent) (m : List Blk) : List Blk := match E with | [] => m | e :: _ => bwrite m e.blk e.at_ e.b e.by_
def tearsE (e : Ent) : Bool := e.tears && decide (2 ≤ e.b.length)
def tearEnt (e : Ent) : Ent := ⟨e.blk, e.at_ + (e.b.length / 2 : Nat), e.b.drop (e.b.length / 2), e.by_, false⟩
def qtears (E : List Ent) : Bool := match E with | [] => false | e :: _ => tearsE e
def qtear (E : List Ent) : List Ent := match E with | [] => [] | e :: E' => if tearsE e then tearEnt e :: E' else e :: E'
def qtearM (E : List Ent) (m : List Blk) : List Blk := match E with | [] => m | e :: _ => if tearsE e then bwrite m e.blk e.at_ (e.b.take (e.b.length / 2)) e.by_ else m
def qdrainM (E : List Ent) (m : List Blk) : List Blk := E.foldl (fun m e => bwrite m e.blk e.at_ e.b e.by_) m
theorem qdrainM_cons (e : Ent) (E : List Ent) (m : List Blk) : qdrainM (e :: E) m = qdrainM E (qflushM (e :: E) m) := rfl
theorem tearEnt_ok {e : Ent} (h : EOk e) (ht : tearsE e = true) : EOk (tearEnt e) := by
  have h1 := h.at_
  have h2 := h.len
  have h3 : 2 ≤ e.b.length := by simp [tearsE] at ht; exact ht.2
  refine ⟨h.blk, ?_, h.by_, ?_⟩
  · simp only [tearEnt, List.length_drop]; omega
  · simp only [tearEnt, List.length_drop]; omega
theorem ent_cons_succ (e : Ent) (E : List Ent) (i : Nat) : ent (e :: E) (i + 1) = ent E i := by simp [ent]
theorem ent_cons_zero (e : Ent) (E : List Ent) : ent (e :: E) 0 = e := by simp [ent]

theorem flat_drop (sz n : Nat) (f : Nat → Nat → Value) (hs : 0 < sz) : (flat sz (n + 1) f).drop sz = flat sz n (fun i j => f (i + 1) j) := by
  apply List.ext_getElem?
  intro t
  rw [List.getElem?_drop]
  have e : (n + 1) * sz = n * sz + sz := by rw [Nat.add_mul, Nat.one_mul]
  by_cases h : t < n * sz
  · have h3 : (sz + t) / sz = t / sz + 1 := by rw [Nat.add_comm, Nat.add_div_right _ hs]
    have h4 : (sz + t) % sz = t % sz := by rw [Nat.add_comm, Nat.add_mod_right]
    simp [flat, h, show sz + t < (n + 1) * sz by omega, h3, h4]
  · simp [flat, h, show ¬ sz + t < (n + 1) * sz by omega]
end Go.Ren
