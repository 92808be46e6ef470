/-
  What the laws on relations have in common. No condition. RelHeads, RelEdges, the plain laws: happens-before of a head, and of a log with a pair more. No condition. What package model computes, on plain lists. No condition, no program.
-/
import Derived.Test.YthmkcgiiakinmaaJRelBefore
import Derived.Test.YthmkcgiiakinmaaJRelAt
import Derived.Test.YthmkcgiiakinmaaJEvFew
import Derived.Test.YthmkcgiiakinmaaJEvHeadsLaw
import Derived.Test.YthmkcgiiakinmaaJPlan
namespace Go.Ren
set_option linter.unusedVariables false
theorem hasB_nat {n : Nat} {R : Nat → Nat → Bool} {a b : Nat} (ha : a < n) (hb : b < n) : hasB n R (a : Int) (b : Int) = R a b := by
  unfold hasB
  have : decide (0 ≤ (a : Int) ∧ (a : Int) < (n : Int) ∧ 0 ≤ (b : Int) ∧ (b : Int) < (n : Int)) = true := by rw [decide_eq_true_eq]; omega
  rw [this]; simp
theorem relN_may {L : Lg} (h : mayL L = true) : relN L = L.ev.length := by unfold relN; rw [if_pos h]
theorem relN_not {L : Lg} (h : mayL L = false) : relN L = 0 := by unfold relN; rw [h]; rfl
/-- Up to k: any of these? -/
def anyB (p : Nat → Bool) (k : Nat) : Bool := (List.range k).any p
theorem anyB_succ (p : Nat → Bool) (k : Nat) : anyB p (k + 1) = (anyB p k || p k) := by simp [anyB, List.range_succ, List.any_append]
theorem anyB_iff {p : Nat → Bool} {k : Nat} : anyB p k = true ↔ ∃ c, c < k ∧ p c = true := by simp [anyB, List.any_eq_true]
theorem anyB_true {p : Nat → Bool} {k : Nat} (h : p k = true) : anyB p (k + 1) = true := by rw [anyB_succ, h, Bool.or_true]
theorem anyB_keep {p : Nat → Bool} {k : Nat} (h : p k = false) : anyB p (k + 1) = anyB p k := by rw [anyB_succ, h, Bool.or_false]
/-- P15.1: what happens-before is made of. -/
theorem goes_law {L : Lg} {a b : Nat} (hb : b < L.ev.length) : hbB L a b = ((decide (a < b) && (decide ((evn L.ev a).ag = (evn L.ev b).ag) || synB L a b)) || anyB (fun c => hbB L a c && hbB L c b) L.ev.length) := by
  rw [Bool.eq_iff_iff]
  simp only [Bool.or_eq_true, Bool.and_eq_true, decide_eq_true_eq, anyB_iff]
  constructor
  · intro h
    rcases hbB_first h with h1 | ⟨c, h1, h2⟩
    · unfold stepB at h1
      simp only [Bool.and_eq_true, Bool.or_eq_true, decide_eq_true_eq] at h1
      exact .inl ⟨h1.1.1, h1.2⟩
    · exact .inr ⟨c, (stepB_lt _ _ h1).2, hbB_step h1, h2⟩
  · rintro (⟨h1, h2⟩ | ⟨c, _, h1, h2⟩)
    · exact hbB_step (by unfold stepB; simp only [Bool.and_eq_true, Bool.or_eq_true, decide_eq_true_eq]; exact ⟨⟨h1, hb⟩, h2⟩)
    · exact hbB_trans h1 h2
end Go.Ren
namespace Go.Proofs.Ythmkcgiiakinmaa
open Go.Ren Go.RowKit
set_option linter.unusedVariables false
theorem rpost_is {n : Nat} {R : Nat → Nat → Bool} {w : World} {e : Ending} {w' : World} (h : RelPost n R w e w') : ∃ g, e = .returned (.pointer (some ⟨g, 0, none⟩)) ∧ RelIs w' (.pointer (some ⟨g, 0, none⟩)) n R ∧ Ext w w' := by
  obtain ⟨g, rv, r, h1, h2⟩ := h.loop
  exact ⟨g, h1, h2.is, h2.x⟩
theorem RelIs.congr {w : World} {p : Value} {n : Nat} {R R' : Nat → Nat → Bool} (h : RelIs w p n R) (e : ∀ a b, a < n → b < n → R a b = R' a b) : RelIs w p n R' := by
  obtain ⟨g, rv, r, M, h1, h2, h3⟩ := h
  exact ⟨g, rv, r, M, h1, h2, fun a b ha hb => (h3 a b ha hb).trans (e a b ha hb)⟩
/-- Two boxes with an event each. -/
def TwoEv (w0 : World) (x y : Ev) (u v : Vs) (s1 s2 : Value) (wq : World) : Prop := ∃ g1 g2, s1 = .pointer (some ⟨g1, 0, none⟩) ∧ s2 = .pointer (some ⟨g2, 0, none⟩) ∧ EvBox wq g1 x u ∧ EvBox wq g2 y v ∧ Ext w0 wq
theorem TwoEv.keep {w0 : World} {x y : Ev} {u v : Vs} {s1 s2 : Value} {wq : World} (h : TwoEv w0 x y u v s1 s2 wq) (hx : EvAt w0 x u) (hy : EvAt w0 y v) : ∃ b1 b2, s1 = .pointer (some ⟨b1, 0, none⟩) ∧ s2 = .pointer (some ⟨b2, 0, none⟩) ∧ Ext w0 wq ∧
    Hid (∀ w', Ext wq w' → (w'.cell? ⟨b1, 0, none⟩ = some (.int .i64 (x).ag) ∧ w'.cell? ⟨b1, 1, none⟩ = some (.int .i64 (x).kind) ∧ w'.cell? ⟨b1, 2, none⟩ = some (.bool (x).seq) ∧ w'.cell? ⟨b1, 3, none⟩ = some (.bool (x).nt) ∧ w'.cell? ⟨b1, 4, none⟩ = some (.int .i64 (x).blk) ∧ w'.cell? ⟨b1, 5, none⟩ = some (.int .i64 (x).at_) ∧ w'.cell? ⟨b1, 6, none⟩ = some (.int .i64 (x).size) ∧ w'.cell? ⟨b1, 7, none⟩ = some u.r ∧ w'.cell? ⟨b1, 8, none⟩ = some u.w ∧ w'.cell? ⟨b1, 9, none⟩ = some u.f) ∧ (w'.cell? ⟨b2, 0, none⟩ = some (.int .i64 (y).ag) ∧ w'.cell? ⟨b2, 1, none⟩ = some (.int .i64 (y).kind) ∧ w'.cell? ⟨b2, 2, none⟩ = some (.bool (y).seq) ∧ w'.cell? ⟨b2, 3, none⟩ = some (.bool (y).nt) ∧ w'.cell? ⟨b2, 4, none⟩ = some (.int .i64 (y).blk) ∧ w'.cell? ⟨b2, 5, none⟩ = some (.int .i64 (y).at_) ∧ w'.cell? ⟨b2, 6, none⟩ = some (.int .i64 (y).size) ∧ w'.cell? ⟨b2, 7, none⟩ = some v.r ∧ w'.cell? ⟨b2, 8, none⟩ = some v.w ∧ w'.cell? ⟨b2, 9, none⟩ = some v.f) ∧ EvAt w' ⟨x.ag, x.kind, x.seq, x.nt, x.blk, x.at_, x.size, x.rd, x.wr, x.fr⟩ u ∧ EvAt w' ⟨y.ag, y.kind, y.seq, y.nt, y.blk, y.at_, y.size, y.rd, y.wr, y.fr⟩ v) := by
  obtain ⟨b1, b2, e1, e2, h1, h2, h3⟩ := h
  exact ⟨b1, b2, e1, e2, h3, Lib.hid fun w' z => ⟨(h1.ext z).cells, (h2.ext z).cells, hx.ext (h3.trans z), hy.ext (h3.trans z)⟩⟩
end Go.Proofs.Ythmkcgiiakinmaa
namespace Go.Ren
set_option linter.unusedVariables false
theorem head_evn' {L : Lg} {n : Int} {i : Nat} (hi : i < headN L n) : evn (headL L n).ev i = evn L.ev i := head_evn (by rw [head_evlen]; exact hi)
theorem head_syn {L : Lg} {n : Int} {a b : Nat} (ha : a < headN L n) (hb : b < headN L n) : synB (headL L n) a b = synB L a b := by
  unfold synB synE fromB
  rw [head_evn' ha, head_evn' hb]
  congr 1
  rw [Bool.eq_iff_iff, List.contains_iff_mem, List.contains_iff_mem]
  unfold headL
  simp only [List.mem_filter]
  constructor
  · exact fun h => h.1
  · exact fun h => ⟨h, by unfold inHead; rw [decide_eq_true_eq]; dsimp only; omega⟩
theorem head_step {L : Lg} {n : Int} {a b : Nat} (hb : b < headN L n) : stepB (headL L n) a b = stepB L a b := by
  have hle := headN_le L n
  unfold stepB
  rw [head_evlen]
  by_cases hab : a < b
  · rw [head_syn (by omega) hb, head_evn' hb, head_evn' (by omega)]
    simp [hab, hb]
    omega
  · simp [hab]
theorem head_hb {L : Lg} {n : Int} {a b : Nat} (hb : b < headN L n) : hbB (headL L n) a b = hbB L a b := by
  rw [Bool.eq_iff_iff]
  constructor
  · intro h
    exact (hbB_least (L := headL L n) (R := fun a b => hbB L a b = true) (fun a b e => hbB_step (by rw [← head_step (by have := (stepB_lt _ _ e).2; rwa [head_evlen] at this)]; exact e)) (fun a x b => hbB_trans) a b) h
  · intro h
    exact (hbB_least (L := L) (R := fun a b => a < b ∧ (b < headN L n → hbB (headL L n) a b = true)) (fun a b e => ⟨(stepB_lt _ _ e).1, fun hb => hbB_step (by rw [head_step hb]; exact e)⟩)
      (fun a x b h1 h2 => ⟨by omega, fun hb => hbB_trans (h1.2 (by omega)) (h2.2 hb)⟩) a b h).2 hb
/-- A pair more. -/
def pairL (L : Lg) (a b : Nat) : Lg := ⟨L.ev, L.pr ++ [((a : Int), (b : Int))]⟩
theorem pair_may {L : Lg} (h : mayL L = true) (hl : L.pr.length ≤ 999) {a b : Nat} (hab : a < b) (hb : b < L.ev.length) : mayL (pairL L a b) = true := by
  obtain ⟨⟨h1, h2⟩, h3, h4⟩ := mayL_iff.1 h
  refine mayL_iff.2 ⟨⟨h1, by simp [pairL]; omega⟩, h3, fun i hi => ?_⟩
  simp only [pairL, List.length_append, List.length_singleton] at hi ⊢
  by_cases e : i < L.pr.length
  · rw [Go.Proofs.Ythmkcgiiakinmaa.prn_snoc_lt e]; exact h4 i e
  · obtain rfl : i = L.pr.length := by omega
    rw [Go.Proofs.Ythmkcgiiakinmaa.prn_snoc]
    unfold prOk
    simp only [decide_eq_true_eq]
    omega
theorem pair_syn {L : Lg} {a b x y : Nat} : synB (pairL L a b) x y = (synB L x y || (decide (x = a) && decide (y = b))) := by
  unfold synB
  rw [Bool.or_assoc]
  congr 1
  unfold pairL
  rw [Bool.eq_iff_iff]
  simp only [List.contains_iff_mem, List.mem_append, List.mem_singleton, Prod.mk.injEq, Int.ofNat_inj, Bool.or_eq_true, Bool.and_eq_true, decide_eq_true_eq]
theorem pair_step {L : Lg} {a b : Nat} (hab : a < b) (hb : b < L.ev.length) (x y : Nat) : stepB (pairL L a b) x y = true ↔ stepB L x y = true ∨ (x = a ∧ y = b) := by
  unfold stepB
  rw [pair_syn]
  show (decide (x < y) && decide (y < L.ev.length) && (decide ((evn L.ev x).ag = (evn L.ev y).ag) || (synB L x y || (decide (x = a) && decide (y = b))))) = true ↔ _
  simp only [Bool.and_eq_true, Bool.or_eq_true, decide_eq_true_eq]
  constructor
  · rintro ⟨h1, h2 | h2 | h2⟩
    · exact .inl ⟨h1, .inl h2⟩
    · exact .inl ⟨h1, .inr h2⟩
    · exact .inr h2
  · rintro (⟨h1, h2 | h2⟩ | ⟨rfl, rfl⟩)
    · exact ⟨h1, .inl h2⟩
    · exact ⟨h1, .inr (.inl h2)⟩
    · exact ⟨⟨hab, hb⟩, .inr (.inr ⟨rfl, rfl⟩)⟩
theorem pair_sub {L : Lg} {a b : Nat} (hab : a < b) (hb : b < L.ev.length) {x y : Nat} (h : hbB L x y = true) : hbB (pairL L a b) x y = true :=
  hbB_least (L := L) (R := fun x y => hbB (pairL L a b) x y = true) (fun x y e => hbB_step ((pair_step hab hb x y).2 (.inl e))) (fun _ _ _ => hbB_trans) x y h
theorem pair_hb {L : Lg} {a b : Nat} (hab : a < b) (hb : b < L.ev.length) (x y : Nat) : hbB (pairL L a b) x y = (hbB L x y || ((decide (x = a) || hbB L x a) && (decide (y = b) || hbB L b y))) := by
  rw [Bool.eq_iff_iff]
  simp only [Bool.or_eq_true, Bool.and_eq_true, decide_eq_true_eq]
  constructor
  · intro h
    refine hbB_least (L := pairL L a b) (R := fun x y => hbB L x y = true ∨ ((x = a ∨ hbB L x a = true) ∧ (y = b ∨ hbB L b y = true))) (fun x y e => ?_) (fun x z y h1 h2 => ?_) x y h
    · rcases (pair_step hab hb x y).1 e with e | ⟨rfl, rfl⟩
      · exact .inl (hbB_step e)
      · exact .inr ⟨.inl rfl, .inl rfl⟩
    · rcases h1 with h1 | ⟨h1, h3⟩
      · rcases h2 with h2 | ⟨h2, h4⟩
        · exact .inl (hbB_trans h1 h2)
        · refine .inr ⟨.inr ?_, h4⟩
          rcases h2 with rfl | h2
          · exact h1
          · exact hbB_trans h1 h2
      · rcases h2 with h2 | ⟨h2, h4⟩
        · refine .inr ⟨h1, .inr ?_⟩
          rcases h3 with rfl | h3
          · exact h2
          · exact hbB_trans h3 h2
        · exact .inr ⟨h1, h4⟩
  · have hs : hbB (pairL L a b) a b = true := hbB_step ((pair_step hab hb a b).2 (.inr ⟨rfl, rfl⟩))
    rintro (h | ⟨h1, h2⟩)
    · exact pair_sub hab hb h
    · have e1 : hbB (pairL L a b) x b = true := by
        rcases h1 with rfl | h1
        · exact hs
        · exact hbB_trans (pair_sub hab hb h1) hs
      rcases h2 with rfl | h2
      · exact e1
      · exact hbB_trans e1 (pair_sub hab hb h2)
end Go.Ren
namespace Go.Ren
set_option linter.unusedVariables false
/-- The first number below n that has p; -1: none. -/
def fstN (p : Nat → Bool) : Nat → Int
  | 0 => -1
  | n + 1 => if fstN p n = -1 then (if p n = true then (n : Int) else -1) else fstN p n
theorem fstN_none {p : Nat → Bool} {n : Nat} (h : ∀ j, j < n → p j = false) : fstN p n = -1 := by
  induction n with
  | zero => rfl
  | succ n ih => unfold fstN; rw [ih fun j hj => h j (by omega), h n (by omega)]; rfl
theorem fstN_hit {p : Nat → Bool} {k n : Nat} (hk : k < n) (h : ∀ j, j < k → p j = false) (h1 : p k = true) : fstN p n = k := by
  induction n with
  | zero => omega
  | succ n ih =>
    unfold fstN
    by_cases e : k = n
    · subst e; rw [fstN_none h, if_pos rfl, if_pos h1]
    · rw [ih (by omega)]; rw [if_neg (by omega)]
theorem fstN_cases (p : Nat → Bool) (n : Nat) : (fstN p n = -1 ∧ ∀ j, j < n → p j = false) ∨ ∃ k : Nat, k < n ∧ fstN p n = k ∧ p k = true ∧ ∀ j, j < k → p j = false := by
  induction n with
  | zero => exact .inl ⟨rfl, fun j hj => absurd hj (Nat.not_lt_zero _)⟩
  | succ n ih =>
    rcases ih with ⟨h1, h2⟩ | ⟨k, h1, h2, h3, h4⟩
    · cases hp : p n with
      | true => exact .inr ⟨n, by omega, fstN_hit (by omega) h2 hp, hp, h2⟩
      | false =>
        have : ∀ j, j < n + 1 → p j = false := fun j hj => by
          by_cases e : j = n
          · subst e; exact hp
          · exact h2 j (by omega)
        exact .inl ⟨fstN_none this, this⟩
    · exact .inr ⟨k, by omega, fstN_hit (by omega) h4 h3, h3, h4⟩
theorem fstN_congr {p q : Nat → Bool} {n : Nat} (h : ∀ j, j < n → p j = q j) : fstN p n = fstN q n := by
  induction n with
  | zero => rfl
  | succ n ih => unfold fstN; rw [ih fun j hj => h j (by omega), h n (by omega)]
theorem fstN_range (p : Nat → Bool) (n : Nat) : -1 ≤ fstN p n ∧ fstN p n < n ∨ (n = 0 ∧ fstN p n = -1) := by
  rcases fstN_cases p n with ⟨h, _⟩ | ⟨k, h1, h2, _⟩ <;> omega
def allN (p : Nat → Bool) (k : Nat) : Bool := (List.range k).all p
theorem allN_succ (p : Nat → Bool) (k : Nat) : allN p (k + 1) = (allN p k && p k) := by simp [allN, List.range_succ, List.all_append]
theorem allN_iff {p : Nat → Bool} {k : Nat} : allN p k = true ↔ ∀ i, i < k → p i = true := by simp [allN, List.all_eq_true]
theorem anyB_none {p : Nat → Bool} {k : Nat} : anyB p k = false ↔ ∀ i, i < k → p i = false := by simp [anyB, List.any_eq_false]
theorem anyB_congr {p q : Nat → Bool} {k : Nat} (h : ∀ i, i < k → p i = q i) : anyB p k = anyB q k := by
  induction k with
  | zero => rfl
  | succ k ih => rw [anyB_succ, anyB_succ, ih fun i hi => h i (by omega), h k (by omega)]

def frn (L : Lg) (r i : Nat) : Int := (evn L.ev r).fr.getD i 0
theorem frn_eq {L : Lg} {r i : Nat} {e : Ev} (he : e = evn L.ev r) (hi : i < e.fr.length) : frn L r i = e.fr[i] := by subst he; simp [frn, hi]
theorem frn_may {L : Lg} (h : mayL L = true) {r i : Nat} (hr : r < L.ev.length) (hi : i < (evn L.ev r).fr.length) : frn L r i = -1 ∨ ∃ a : Nat, frn L r i = (a : Int) ∧ a < r := by
  rw [frn_eq rfl hi]; exact may_from h hr hi
def hidP (L : Lg) (r : Nat) (w a : Int) (v : Nat) : Bool := wrsB (evn L.ev v) && evCov (evn L.ev v) (evn L.ev r).blk a && hbB L v r && (decide (w < 0) || hasB L.ev.length (hbB L) w v)
def hidB (L : Lg) (r : Nat) (w a : Int) : Bool := anyB (hidP L r w a) L.ev.length
def cohP (L : Lg) (r i : Nat) : Bool := hasB L.ev.length (hbB L) r (frn L r i) || hidB L r (frn L r i) ((evn L.ev r).at_ + i)
def cohB (L : Lg) (r : Nat) : Bool := anyB (cohP L r) (evn L.ev r).fr.length
def cohI (L : Lg) : Int := if mayL L = true then fstN (cohB L) L.ev.length else 0
def qP (L : Lg) (r i : Nat) : Bool := (evn L.ev r).nt && decide (0 ≤ frn L r i) && (evn L.ev (frn L r i).toNat).nt && evEq (evn L.ev r) (evn L.ev (frn L r i).toNat)
def tearP (L : Lg) (r j : Nat) : Bool := anyB (fun i => qP L r i && qP L r j && decide (frn L r j ≠ frn L r i)) j
def tearB (L : Lg) (r : Nat) : Bool := anyB (tearP L r) (evn L.ev r).fr.length
def tearI (L : Lg) : Int := if mayL L = true then fstN (tearB L) L.ev.length else 0
/-- Where k stands in a list of numbers, among its first i. -/
def posK (l : List Int) (i k : Nat) : Int := fstN (fun j => l.getD j (-1) == (k : Int)) i
def plStep (n : Nat) (l : List Int) (i : Nat) : Bool := decide (0 ≤ l.getD i (-1) ∧ l.getD i (-1) < (n : Int)) && decide (posK l i (l.getD i (-1)).toNat = -1)
def plOk (n : Nat) (l : List Int) : Bool := decide (l.length = n) && allN (plStep n l) l.length
def posI (l : List Int) (k : Nat) : Int := posK l l.length k
def ordP (l : List Int) (p : Int × Int) : Bool := decide (posI l p.1.toNat < posI l p.2.toNat)
def ordB (L : Lg) (l : List Int) : Bool := mayL L && plOk L.ev.length l && (listR L.ev.length (hbB L)).all (ordP l)
def ordI (L : Lg) (l : List Int) : Int := if ordB L l = true then -1 else 0
def pastB (L : Lg) (w v r : Nat) : Bool :=
  if (synB L w r && evEq (evn L.ev v) (evn L.ev r)) = true then true
  else if hbB L w r = false then false
  else if (hbB L v r && (evn L.ev w).seq && evEq (evn L.ev w) (evn L.ev v)) = true then true
  else hbB L w v && (evn L.ev r).seq && evEq (evn L.ev v) (evn L.ev r)
def atoP (L : Lg) (l : List Int) (r w v : Nat) : Bool := wrsB (evn L.ev v) && (evn L.ev v).seq && decide (v ≠ w) && decide (v ≠ r) && decide (posI l w < posI l v) && decide (posI l v < posI l r) && pastB L w v r
def atoQ (L : Lg) (l : List Int) (r i : Nat) : Bool := decide (0 ≤ frn L r i) && anyB (atoP L l r (frn L r i).toNat) L.ev.length
def atoB (L : Lg) (l : List Int) (r : Nat) : Bool := anyB (atoQ L l r) (evn L.ev r).fr.length
def atoI (L : Lg) (l : List Int) : Int := if ordB L l = true then fstN (atoB L l) L.ev.length else 0
def valB (L : Lg) (l : List Int) : Bool := mayL L && decide (cohI L = -1) && decide (tearI L = -1) && ordB L l && decide (atoI L l = -1)
def natL (L : Lg) : List Int := if mayL L = true then (List.range L.ev.length).map fun i : Nat => (i : Int) else []
end Go.Ren
