/-
  Happens-before of a log with an event more, and pairs that lead to it. No condition, no program. What the buffers and the bytes of a shared memory owe to its log. No condition, no program. What an event more does to what buffers and bytes owe to the log. No condition, no program. Whatever is called, the log of a shared memory may be, and no read of it is hidden or torn. No condition, no program.
-/
import Derived.Test.YtbhocahmhmafmaaGreatVRelTool
import Derived.Test.YtbhocahmhmafmaaGreatVElemAt
import Derived.Test.YtbhocahmhmafmaaGreatVEvCopied
namespace Go.Ren
set_option linter.unusedVariables false
def pushL (L : Lg) (e : Ev) (P : List (Int × Int)) : Lg := ⟨L.ev ++ [e], L.pr ++ P⟩
def PTo (n : Nat) (P : List (Int × Int)) : Prop := ∀ p ∈ P, p.2 = (n : Int)
theorem pto_nil (n : Nat) : PTo n [] := fun p hp => by cases hp
section
variable {L : Lg} {e : Ev} {P : List (Int × Int)}
theorem pushL_len : (pushL L e P).ev.length = L.ev.length + 1 := by simp [pushL]
theorem pushL_lt {v : Nat} (h : v < L.ev.length) : evn (pushL L e P).ev v = evn L.ev v := evn_lt h
theorem pushL_at : evn (pushL L e P).ev L.ev.length = e := evn_at
theorem push_syn (hP : PTo L.ev.length P) {a b : Nat} (ha : a < L.ev.length) (hb : b < L.ev.length) : synB (pushL L e P) a b = synB L a b := by
 unfold synB synE fromB
 rw [pushL_lt ha, pushL_lt hb]
 congr 1
 rw [Bool.eq_iff_iff, List.contains_iff_mem, List.contains_iff_mem]
 show _ ∈ L.pr ++ P ↔ _
 rw [List.mem_append]
 constructor
 · rintro (h | h)
   · exact h
   · have := hP _ h; simp at this; omega
 · exact .inl
theorem push_step (hP : PTo L.ev.length P) {a b : Nat} (hb : b < L.ev.length) : stepB (pushL L e P) a b = stepB L a b := by
 unfold stepB
 by_cases hab : a < b
 · rw [push_syn hP (by omega) hb, pushL_lt hb, pushL_lt (by omega), pushL_len]
   simp [hab, hb]; omega
 · simp [hab]
theorem push_rel (hP : PTo L.ev.length P) : ∀ a b, hbB (pushL L e P) a b = true → a < b ∧ b ≤ L.ev.length ∧ (b < L.ev.length → hbB L a b = true) ∧ (b = L.ev.length → ∃ u, u < L.ev.length ∧ (a = u ∨ hbB L a u = true) ∧ stepB (pushL L e P) u L.ev.length = true) := by
 refine hbB_least (L := pushL L e P) (fun a b h => ?_) (fun a x b h1 h2 => ?_)
 · have hl := stepB_lt _ _ h
   rw [pushL_len] at hl
   refine ⟨hl.1, by omega, fun hb => hbB_step (by rw [← push_step hP hb]; exact h), fun hb => ⟨a, by omega, .inl rfl, by rw [← hb]; exact h⟩⟩
 · obtain ⟨g1, g2, g3, g4⟩ := h1
   obtain ⟨k1, k2, k3, k4⟩ := h2
   have hx : hbB L a x = true := g3 (by omega)
   refine ⟨by omega, k2, fun hb => hbB_trans hx (k3 hb), fun hb => ?_⟩
   obtain ⟨u, hu, h3, h4⟩ := k4 hb
   refine ⟨u, hu, .inr ?_, h4⟩
   rcases h3 with rfl | h3
   · exact hx
   · exact hbB_trans hx h3
theorem push_sub (hP : PTo L.ev.length P) {a b : Nat} (h : hbB L a b = true) : hbB (pushL L e P) a b = true :=
 (hbB_least (L := L) (R := fun a b => b < L.ev.length ∧ hbB (pushL L e P) a b = true) (fun a b h => ⟨(stepB_lt _ _ h).2, hbB_step (by rw [push_step hP (stepB_lt _ _ h).2]; exact h)⟩) (fun a x b h1 h2 => ⟨h2.1, hbB_trans h1.2 h2.2⟩) a b h).2
theorem push_hb (hP : PTo L.ev.length P) {a b : Nat} (hb : b < L.ev.length) : hbB (pushL L e P) a b = hbB L a b := by
 rw [Bool.eq_iff_iff]
 exact ⟨fun h => (push_rel hP a b h).2.2.1 hb, push_sub hP⟩
theorem push_new (hP : PTo L.ev.length P) {a : Nat} (h : hbB (pushL L e P) a L.ev.length = true) : ∃ u, u < L.ev.length ∧ (a = u ∨ hbB L a u = true) ∧ ((evn L.ev u).ag = e.ag ∨ synB (pushL L e P) u L.ev.length = true) := by
 obtain ⟨u, hu, h1, h2⟩ := (push_rel hP a _ h).2.2.2 rfl
 refine ⟨u, hu, h1, ?_⟩
 unfold stepB at h2
 simp only [Bool.and_eq_true, Bool.or_eq_true, decide_eq_true_eq] at h2
 rw [pushL_lt hu, pushL_at] at h2
 exact h2.2
end
end Go.Ren
namespace Go.Ren
set_option linter.unusedVariables false
def WC (E : List Ev) (v : Nat) (k i : Int) : Prop := v < E.length ∧ wrsB (evn E v) = true ∧ evCov (evn E v) k i = true
def vb (e : Ev) (i : Int) : UInt8 := e.wr.getD (i - e.at_).toNat 0
theorem evCov_iff {e : Ev} {k i : Int} : evCov e k i = true ↔ e.kind ≠ 0 ∧ e.blk = k ∧ e.at_ ≤ i ∧ i < e.at_ + e.size := by
 unfold evCov withB
 simp only [Bool.and_eq_true, decide_eq_true_eq]
 omega
theorem covE_iff {e : Ent} {k i : Nat} : covE e k i = true ↔ e.blk = (k : Int) ∧ e.at_ ≤ (i : Int) ∧ (i : Int) < e.at_ + e.b.length := by unfold covE; rw [decide_eq_true_eq]
theorem evq_iff {a b : Ev} : evEq a b = true ↔ a.kind ≠ 0 ∧ b.kind ≠ 0 ∧ a.blk = b.blk ∧ a.at_ = b.at_ ∧ a.size = b.size := by unfold evEq; rw [decide_eq_true_eq]
theorem wrsB_iff {e : Ev} : wrsB e = true ↔ e.kind = 2 ∨ e.kind = 3 := by unfold wrsB; rw [decide_eq_true_eq]
structure EEv (x : Ev) (a : Nat) (e : Ent) : Prop where
 ag : x.ag = (a : Int)
 kind : x.kind = 2
 seq : x.seq = false
 blk : e.blk = x.blk
 lo : x.at_ ≤ e.at_
 hi : e.at_ + e.b.length = x.at_ + x.size
 val : ∀ i : Int, e.at_ ≤ i → i < e.at_ + e.b.length → e.b.getD (i - e.at_).toNat 0 = vb x i
 nt : x.nt = true → e.at_ = x.at_ ∧ e.tears = false
def EIn (L : Lg) (a : Nat) (e : Ent) : Prop := ∃ v : Nat, e.by_ = (v : Int) ∧ v < L.ev.length ∧ EEv (evn L.ev v) a e
theorem EEv.wc {x : Ev} {a : Nat} {e : Ent} (h : EEv x a e) {k i : Nat} (hc : covE e k i = true) : wrsB x = true ∧ evCov x (k : Int) (i : Int) = true := by
 rw [covE_iff] at hc
 have h1 := h.blk
 have h2 := h.lo
 have h3 := h.hi
 have h4 := h.kind
 exact ⟨wrsB_iff.2 (.inl h4), evCov_iff.2 ⟨by omega, by omega, by omega, by omega⟩⟩
theorem EEv.full {x : Ev} {a : Nat} {e : Ent} (h : EEv x a e) (hn : x.nt = true) {k i : Nat} (hc : evCov x (k : Int) (i : Int) = true) : covE e k i = true := by
 rw [evCov_iff] at hc
 have h1 := h.blk
 have h2 := (h.nt hn).1
 have h3 := h.hi
 exact covE_iff.2 ⟨by omega, by omega, by omega⟩
def Pend (s : Shm) (v k i : Nat) : Prop := ∃ a : Nat, a < s.n ∧ ∃ e ∈ quB s (a : Int), e.by_ = (v : Int) ∧ covE e k i = true
def MOk (L : Lg) (k i : Nat) (b : UInt8) (y : Int) : Prop := (y = -1 ∧ b = 0) ∨ ∃ w : Nat, y = (w : Int) ∧ WC L.ev w k i ∧ b = vb (evn L.ev w) i
structure VB (N : Nat) (s : Shm) : Prop where
 ok : ShOk s
 qin : QIn s
 le : N ≤ s.L.ev.length
 ent : ∀ a : Nat, a < s.n → ∀ e ∈ quB s (a : Int), EIn s.L a e
 old : ∀ a : Nat, a < s.n → ∀ e ∈ quB s (a : Int), e.by_ < (N : Int)
 srt : ∀ a : Nat, a < s.n → (quB s (a : Int)).Pairwise fun x y => x.by_ < y.by_
 fifo : ∀ a : Nat, a < s.n → ∀ e ∈ quB s (a : Int), ∀ (u k i : Nat), u < N → WC s.L.ev u k i → (evn s.L.ev u).ag = (a : Int) → e.by_ < (u : Int) → ∃ e' ∈ quB s (a : Int), e'.by_ = (u : Int) ∧ covE e' k i = true
 pnd : ∀ a : Nat, a < s.n → ∀ e ∈ quB s (a : Int), ∀ u, hbB s.L e.by_.toNat u = true → (evn s.L.ev u).ag = (a : Int)
 drn : ∀ a : Nat, a < s.n → ∀ e ∈ quB s (a : Int), ∀ u, u < s.L.ev.length → (evn s.L.ev u).ag = (a : Int) → drnB (evn s.L.ev u) = true → (u : Int) < e.by_
 mem : ∀ (k i : Nat) b y, mb s.M k i = some (b, y) → MOk s.L k i b y
 app : ∀ (k i : Nat) b y, mb s.M k i = some (b, y) → ∀ v, v < N → WC s.L.ev v k i → Pend s v k i ∨ (0 ≤ y ∧ hbB s.L y.toNat v = false)
 at1 : ∀ (k i : Nat) b y, mb s.M k i = some (b, y) → 0 ≤ y → ∀ v, v < N → WC s.L.ev v k i → (evn s.L.ev v).seq = true → y < (v : Int) → (evn s.L.ev y.toNat).seq = false
 tear : ∀ (k i j : Nat) b y b' y', mb s.M k i = some (b, y) → mb s.M k j = some (b', y') → 0 ≤ y → 0 ≤ y' → (evn s.L.ev y.toNat).nt = true → (evn s.L.ev y'.toNat).nt = true → evEq (evn s.L.ev y.toNat) (evn s.L.ev y'.toNat) = true → y = y'
 rng : ∀ v (k i : Nat), WC s.L.ev v k i → (mb s.M k i).isSome = true
theorem pw_head {e : Ent} {E : List Ent} (h : (e :: E).Pairwise fun x y => x.by_ < y.by_) : (∀ x ∈ E, e.by_ < x.by_) ∧ E.Pairwise fun x y => x.by_ < y.by_ := List.pairwise_cons.1 h
theorem VB.part {N : Nat} {s : Shm} (h : VB N s) {a : Nat} (ha : a < s.n) {e : Ent} {E : List Ent} (hq : quB s (a : Int) = e :: E) (c : Nat → Nat → Bool) {M' : List Blk} {E' : List Ent}
 (hM : ∀ k i, mb M' k i = if c k i = true then some (valE e i) else mb s.M k i)
 (hc : ∀ k i, c k i = true → covE e k i = true)
 (hr : ∀ k i, covE e k i = true → c k i = true ∨ ∃ x ∈ E', x.by_ = e.by_ ∧ covE x k i = true)
 (hnt : e.tears = true ∨ ∀ k i, covE e k i = true → c k i = true)
 (hE : ∀ x ∈ E, x ∈ E') (hE' : ∀ x ∈ E', x ∈ E ∨ (x.by_ = e.by_ ∧ EIn s.L a x)) (hs : E'.Pairwise fun x y => x.by_ < y.by_)
 (ok' : ShOk ⟨s.n, s.room, M', s.Q.set a E', s.L⟩) (qin' : QIn ⟨s.n, s.room, M', s.Q.set a E', s.L⟩) : VB N ⟨s.n, s.room, M', s.Q.set a E', s.L⟩ := by
 have hql : a < s.Q.length := by rw [h.ok.ql]; exact ha
 have qa : ∀ j : Nat, quB ⟨s.n, s.room, M', s.Q.set a E', s.L⟩ (j : Int) = if j = a then E' else quB s (j : Int) := fun j => quB_set hql j
 have he : e ∈ quB s (a : Int) := by rw [hq]; simp
 have hsrt := h.srt a ha
 rw [hq] at hsrt
 have hhd := (pw_head hsrt).1
 obtain ⟨v0, hv0, hv0l, hv0e⟩ := h.ent a ha e he
 have old0 : ∀ x ∈ E', ∃ x0 ∈ quB s (a : Int), x0.by_ = x.by_ := fun x hx => by
  rcases hE' x hx with h1 | ⟨h1, _⟩
  · exact ⟨x, by rw [hq]; simp [h1], rfl⟩
  · exact ⟨e, he, h1.symm⟩
 have up : ∀ x0 ∈ quB s (a : Int), ∀ u : Nat, x0.by_ = (u : Int) → e.by_ < (u : Int) → x0 ∈ E' := fun x0 hx0 u h1 h2 => by
  rw [hq] at hx0
  rcases List.mem_cons.1 hx0 with rfl | h3
  · omega
  · exact hE x0 h3
 have pend : ∀ v k i, c k i = false → Pend s v k i → Pend ⟨s.n, s.room, M', s.Q.set a E', s.L⟩ v k i := by
  rintro v k i hck ⟨j, hj, x, hx, h1, h2⟩
  by_cases hja : j = a
  · subst hja
    refine ⟨j, hj, ?_⟩
    rw [qa j, if_pos rfl]
    rw [hq] at hx
    rcases List.mem_cons.1 hx with rfl | hx
    · rcases hr k i h2 with h3 | ⟨y, hy, h3, h4⟩
      · rw [hck] at h3; cases h3
      · exact ⟨y, hy, h3.trans h1, h4⟩
    · exact ⟨x, hE x hx, h1, h2⟩
  · exact ⟨j, hj, x, by rw [qa j, if_neg hja]; exact hx, h1, h2⟩
 refine ⟨ok', qin', h.le, fun j hj x hx => ?_, fun j hj x hx => ?_, fun j hj => ?_, fun j hj x hx u k i hu hw hag hlt => ?_, fun j hj x hx u hb => ?_, fun j hj x hx u hu hag hd => ?_, fun k i b y hm => ?_, fun k i b y hm v hv hw => ?_, fun k i b y hm hy v hv hw hs hlt => ?_, fun k i j b y b' y' hm hm' hy hy' hn hn' heq => ?_, fun v k i hw => ?_⟩
 · rw [qa j] at hx
   split at hx
   · rename_i hja; subst hja
     rcases hE' x hx with h1 | h1
     · exact h.ent j hj x (by rw [hq]; simp [h1])
     · exact h1.2
   · exact h.ent j hj x hx
 · rw [qa j] at hx
   split at hx
   · rename_i hja; subst hja
     obtain ⟨x0, h1, h2⟩ := old0 x hx
     rw [← h2]; exact h.old j hj x0 h1
   · exact h.old j hj x hx
 · rw [qa j]
   split
   · exact hs
   · exact h.srt j hj
 · rw [qa j] at hx ⊢
   split at hx
   · rename_i hja; subst hja
     rw [if_pos rfl]
     obtain ⟨x0, h1, h2⟩ := old0 x hx
     obtain ⟨e', h3, h4, h5⟩ := h.fifo j hj x0 h1 u k i hu hw hag (by rw [h2]; exact hlt)
     refine ⟨e', up e' h3 u h4 ?_, h4, h5⟩
     rcases hE' x hx with h6 | h6
     · have := hhd x h6; omega
     · omega
   · rename_i hja
     rw [if_neg hja]
     exact h.fifo j hj x hx u k i hu hw hag hlt
 · rw [qa j] at hx
   split at hx
   · rename_i hja; subst hja
     obtain ⟨x0, h1, h2⟩ := old0 x hx
     exact h.pnd j hj x0 h1 u (by rw [h2]; exact hb)
   · exact h.pnd j hj x hx u hb
 · rw [qa j] at hx
   split at hx
   · rename_i hja; subst hja
     obtain ⟨x0, h1, h2⟩ := old0 x hx
     rw [← h2]; exact h.drn j hj x0 h1 u hu hag hd
   · exact h.drn j hj x hx u hu hag hd
 · have hm : mb M' k i = some (b, y) := hm
   rw [hM] at hm
   split at hm
   · rename_i hck
     simp only [valE, Option.some.injEq, Prod.mk.injEq] at hm
     have h1 := hc k i hck
     have h2 := covE_iff.1 h1
     have h3 := hv0e.wc h1
     refine .inr ⟨v0, by rw [← hm.2]; exact hv0, ⟨hv0l, h3.1, h3.2⟩, ?_⟩
     rw [← hm.1]
     exact hv0e.val i h2.2.1 h2.2.2
   · exact h.mem k i b y hm
 · have hm : mb M' k i = some (b, y) := hm
   rw [hM] at hm
   split at hm
   · rename_i hck
     simp only [valE, Option.some.injEq, Prod.mk.injEq] at hm
     cases hb : hbB s.L y.toNat v with
     | false => exact .inr ⟨by omega, rfl⟩
     | true =>
      refine .inl ?_
      have hlt := (hbB_lt hb).1
      rw [← hm.2] at hb hlt
      obtain ⟨e', h3, h4, h5⟩ := h.fifo a ha e he v k i hv hw (h.pnd a ha e he v hb) (by omega)
      refine ⟨a, ha, e', ?_, h4, h5⟩
      rw [qa a, if_pos rfl]
      exact up e' h3 v h4 (by omega)
   · rename_i hck
     rcases h.app k i b y hm v hv hw with h1 | h1
     · exact .inl (pend v k i (by simpa using hck) h1)
     · exact .inr h1
 · have hm : mb M' k i = some (b, y) := hm
   rw [hM] at hm
   split at hm
   · simp only [valE, Option.some.injEq, Prod.mk.injEq] at hm
     have hy0 : y.toNat = v0 := by omega
     show (evn s.L.ev y.toNat).seq = false
     rw [hy0]; exact hv0e.seq
   · exact h.at1 k i b y hm hy v hv hw hs hlt
 · have hm : mb M' k i = some (b, y) := hm
   have hm' : mb M' k j = some (b', y') := hm'
   have hn : (evn s.L.ev y.toNat).nt = true := hn
   have hn' : (evn s.L.ev y'.toNat).nt = true := hn'
   have heq : evEq (evn s.L.ev y.toNat) (evn s.L.ev y'.toNat) = true := heq
   have key : ∀ (i j : Nat) (b' : UInt8) (y' : Int), c k i = true → c k j = false → mb s.M k j = some (b', y') → 0 ≤ y' → (evn s.L.ev v0).nt = true → evEq (evn s.L.ev v0) (evn s.L.ev y'.toNat) = true → False := by
    intro i j b' y' h1 h2 h3 h4 h5 h6
    have hnt' : ∀ k i, covE e k i = true → c k i = true := hnt.resolve_left (by rw [(hv0e.nt h5).2]; simp)
    rcases h.mem k j b' y' h3 with ⟨h7, _⟩ | ⟨w, h7, h8, _⟩
    · omega
    · have hw : y'.toNat = w := by omega
      rw [hw] at h6
      have h9 := evq_iff.1 h6
      have h10 := evCov_iff.1 h8.2.2
      have h11 := hnt' k j (hv0e.full h5 (evCov_iff.2 ⟨h9.1, by omega, by omega, by omega⟩))
      rw [h2] at h11; cases h11
   rw [hM] at hm hm'
   split at hm
   · rename_i hci
     split at hm'
     · simp only [valE, Option.some.injEq, Prod.mk.injEq] at hm hm'
       omega
     · rename_i hcj
       exfalso
       simp only [valE, Option.some.injEq, Prod.mk.injEq] at hm
       have hy0 : y.toNat = v0 := by omega
       rw [hy0] at hn heq
       exact key i j b' y' hci (by simpa using hcj) hm' hy' hn heq
   · rename_i hci
     split at hm'
     · rename_i hcj
       exfalso
       simp only [valE, Option.some.injEq, Prod.mk.injEq] at hm'
       have hy0 : y'.toNat = v0 := by omega
       rw [hy0] at hn' heq
       have h9 := evq_iff.1 heq
       exact key j i b y hcj (by simpa using hci) hm hy hn' (evq_iff.2 ⟨h9.2.1, h9.1, h9.2.2.1.symm, h9.2.2.2.1.symm, h9.2.2.2.2.symm⟩)
     · exact h.tear k i j b y b' y' hm hm' hy hy' hn hn' heq
 · show (mb M' k i).isSome = true
   rw [hM]
   split
   · rfl
   · exact h.rng v k i hw
theorem q_same {s : Shm} (hk : ShOk s) {i : Nat} (hi : i < s.n) : (⟨s.n, s.room, s.M, s.Q.set i (quB s (i : Int)), s.L⟩ : Shm) = s := by
 have hql : i < s.Q.length := by rw [hk.ql]; exact hi
 have e : quB s (i : Int) = s.Q[i] := by unfold quB; rw [Int.toNat_natCast, List.getD_eq_getElem?_getD, List.getElem?_eq_getElem hql]; rfl
 rw [e, List.set_getElem_self]
theorem VB.flush {N : Nat} {s : Shm} (h : VB N s) {a : Nat} (ha : a < s.n) : VB N (shFlush s (a : Int)) := by
 have ok' := h.ok.flush ha
 have qin' := h.qin.flush h.ok ha
 unfold shFlush at ok' qin' ⊢
 rw [Int.toNat_natCast] at ok' qin' ⊢
 cases hq : quB s (a : Int) with
 | nil =>
  have e := q_same h.ok ha
  rw [hq] at e
  show VB N ⟨s.n, s.room, s.M, s.Q.set a [], s.L⟩
  rw [e]; exact h
 | cons e E =>
  rw [hq] at ok' qin'
  have hin := h.qin a ha e (by rw [hq]; simp)
  have hsrt := h.srt a ha
  rw [hq] at hsrt
  exact h.part ha hq (fun k i => covE e k i) (fun k i => mb_ent h.ok.bk hin k i) (fun k i h => h) (fun k i h => .inl h) (.inr fun k i h => h) (fun x hx => hx) (fun x hx => .inl hx) (pw_head hsrt).2 ok' qin'
theorem VB.tearS {N : Nat} {s : Shm} (h : VB N s) {a : Nat} (ha : a < s.n) : VB N (shTear s (a : Int)) := by
 have ok' := h.ok.tear ha
 have qin' := h.qin.tear h.ok ha
 unfold shTear at ok' qin' ⊢
 rw [Int.toNat_natCast] at ok' qin' ⊢
 have same : quB s (a : Int) = qtear (quB s (a : Int)) → s.M = qtearM (quB s (a : Int)) s.M → VB N ⟨s.n, s.room, qtearM (quB s (a : Int)) s.M, s.Q.set a (qtear (quB s (a : Int))), s.L⟩ := by
  intro e1 e2
  rw [← e2, ← e1, q_same h.ok ha]; exact h
 cases hq : quB s (a : Int) with
 | nil => rw [hq] at same; exact same rfl rfl
 | cons e E =>
  rw [hq] at ok' qin' same
  cases ht : tearsE e with
  | false => exact same (by simp [qtear, ht]) (by simp [qtearM, ht])
  | true =>
   simp only [qtear, qtearM, ht, if_true] at ok' qin' ⊢
   have hin := h.qin a ha e (by rw [hq]; simp)
   have hEok := h.ok.qe a ha e (by rw [hq]; simp)
   have hsrt := h.srt a ha
   rw [hq] at hsrt
   have htt : e.tears = true ∧ 2 ≤ e.b.length := by unfold tearsE at ht; simpa using ht
   obtain ⟨v0, hv0, hv0l, hv0e⟩ := h.ent a ha e (by rw [hq]; simp)
   have hlt : (e.b.take (e.b.length / 2)).length = e.b.length / 2 := by simp; omega
   have hld : (tearEnt e).b.length = e.b.length - e.b.length / 2 := by simp [tearEnt]
   have h4 : (tearEnt e).blk = e.blk := rfl
   have h3 : (tearEnt e).at_ = e.at_ + (e.b.length / 2 : Nat) := rfl
   have h5 : (tearEnt e).b = e.b.drop (e.b.length / 2) := rfl
   have hc1 : bcheck s.M e.blk e.at_ (e.b.take (e.b.length / 2)).length = 0 := by
    unfold inE at hin
    obtain ⟨c1, c2, c3, c4, c5, c6⟩ := bcheck_0 hin
    obtain ⟨K, hK⟩ : ∃ K : Nat, e.blk = K := ⟨e.blk.toNat, by omega⟩
    rw [hK] at hin ⊢
    rw [bcheck_nat] at hin ⊢
    omega
   refine h.part ha hq (fun k i => decide (e.blk = (k : Int) ∧ e.at_ ≤ (i : Int) ∧ (i : Int) < e.at_ + (e.b.length / 2 : Nat))) (fun k i => ?_) (fun k i hc => ?_) (fun k i hc => ?_) (.inl htt.1) (fun x hx => by simp [hx]) (fun x hx => ?_) ?_ ok' qin'
   · rw [mb_write h.ok.bk, hlt]
     by_cases hc : e.blk = (k : Int) ∧ e.at_ ≤ (i : Int) ∧ (i : Int) < e.at_ + (e.b.length / 2 : Nat)
     · rw [if_pos ⟨by rw [hlt] at hc1; exact hc1, hc⟩, if_pos (by simpa using hc)]
       unfold valE
       congr 2
       rw [List.getD_eq_getElem?_getD, List.getD_eq_getElem?_getD, List.getElem?_take, if_pos (by omega)]
     · rw [if_neg (fun hh => hc hh.2), if_neg (by simpa using hc)]
   · rw [decide_eq_true_eq] at hc
     rw [covE_iff]; omega
   · rw [covE_iff] at hc
     by_cases h2 : (i : Int) < e.at_ + (e.b.length / 2 : Nat)
     · exact .inl (by rw [decide_eq_true_eq]; omega)
     · exact .inr ⟨tearEnt e, by simp, rfl, covE_iff.2 ⟨by rw [h4]; exact hc.1, by rw [h3]; omega, by rw [h3, hld]; omega⟩⟩
   · rcases List.mem_cons.1 hx with rfl | hx
     · refine .inr ⟨rfl, v0, hv0, hv0l, ⟨hv0e.ag, hv0e.kind, hv0e.seq, hv0e.blk, by have := hv0e.lo; rw [h3]; omega, by have := hv0e.hi; rw [h3, hld]; omega, fun i hi1 hi2 => ?_, fun hn => ?_⟩⟩
       · rw [h3] at hi1 hi2 ⊢
         rw [hld] at hi2
         rw [← hv0e.val i (by omega) (by omega), h5, List.getD_eq_getElem?_getD, List.getD_eq_getElem?_getD, List.getElem?_drop]
         congr 2
         omega
       · have := (hv0e.nt hn).2
         rw [htt.1] at this; cases this
     · exact .inl hx
   · exact List.pairwise_cons.2 ⟨(pw_head hsrt).1, (pw_head hsrt).2⟩
theorem VB.drain {N : Nat} {s : Shm} (h : VB N s) {a : Nat} (ha : a < s.n) : VB N (shDrain s (a : Int)) := by
 generalize hl : (quB s (a : Int)).length = m
 induction m generalizing s with
 | zero =>
  have hq : quB s (a : Int) = [] := List.length_eq_zero_iff.1 hl
  have e := q_same h.ok ha
  unfold shDrain
  rw [hq] at e ⊢
  rw [Int.toNat_natCast]
  show VB N ⟨s.n, s.room, s.M, s.Q.set a [], s.L⟩
  rw [e]; exact h
 | succ m ih =>
  obtain ⟨e, E, hq⟩ := List.exists_cons_of_length_eq_add_one hl
  have hql : a < s.Q.length := by rw [h.ok.ql]; exact ha
  have h1 := h.flush ha
  have q1 : quB (shFlush s (a : Int)) (a : Int) = E := by
   unfold shFlush
   rw [Int.toNat_natCast, quB_set hql, if_pos rfl, hq]; rfl
  have h2 := ih h1 (by exact ha) (by rw [q1]; rw [hq] at hl; simpa using hl)
  have e1 : shDrain (shFlush s (a : Int)) (a : Int) = shDrain s (a : Int) := by
   unfold shDrain
   rw [q1, hq]
   unfold shFlush
   rw [hq, Int.toNat_natCast]
   simp only [List.tail_cons, List.set_set]
   rfl
  rw [e1] at h2
  exact h2
theorem VB.make {N : Nat} {s : Shm} (h : VB N s) (size : Int) : VB N (shMake s size).2 := by
 have ok' := h.ok.make size
 have qin' : QIn (shMake s size).2 := h.qin.setM (sz_make _ _)
 unfold shMake at ok' qin' ⊢
 unfold bmake at ok' qin' ⊢
 split
 · rename_i hm
   rw [if_pos hm] at ok' qin'
   have hold : ∀ k i, k < s.M.length → mb (s.M ++ [newBlk size.toNat]) k i = mb s.M k i := fun k i hk => by
    unfold mb
    rw [if_pos hk, if_pos (by simp; omega), blk_snoc, if_neg (by omega)]
   have hnew : ∀ k i b y, mb (s.M ++ [newBlk size.toNat]) k i = some (b, y) → mb s.M k i = some (b, y) ∨ (s.M.length ≤ k ∧ y = -1 ∧ b = 0) := fun k i b y hh => by
    by_cases hk : k < s.M.length
    · rw [hold k i hk] at hh; exact .inl hh
    · refine .inr ⟨by omega, ?_⟩
      unfold mb at hh
      split at hh
      · rename_i hk2
        simp at hk2
        rw [blk_snoc, if_pos (by omega)] at hh
        simp only [newBlk, List.getElem?_replicate] at hh
        split at hh
        · simp at hh; exact ⟨hh.2.symm, hh.1.symm⟩
        · simp at hh
      · cases hh
   have nowr : ∀ v (k i : Nat), WC s.L.ev v k i → k < s.M.length := fun v k i hw => ((mb_some h.ok.bk).1 (h.rng v k i hw)).1
   refine ⟨ok', qin', h.le, h.ent, h.old, h.srt, h.fifo, h.pnd, h.drn, fun k i b y hm => ?_, fun k i b y hm v hv hw => ?_, fun k i b y hm hy v hv hw hs hlt => ?_, fun k i j b y b' y' hm hm' hy hy' hn hn' heq => ?_, fun v k i hw => ?_⟩
   · rcases hnew k i b y hm with h1 | ⟨_, h1⟩
     · exact h.mem k i b y h1
     · exact .inl h1
   · have hk := nowr v k i hw
     rcases hnew k i b y hm with h1 | ⟨h1, _⟩
     · exact h.app k i b y h1 v hv hw
     · omega
   · have hk := nowr v k i hw
     rcases hnew k i b y hm with h1 | ⟨h1, _⟩
     · exact h.at1 k i b y h1 hy v hv hw hs hlt
     · omega
   · rcases hnew k i b y hm with h1 | ⟨_, h1⟩
     · rcases hnew k j b' y' hm' with h2 | ⟨_, h2⟩
       · exact h.tear k i j b y b' y' h1 h2 hy hy' hn hn' heq
       · omega
     · omega
   · have hk := nowr v k i hw
     show (mb (s.M ++ [newBlk size.toNat]) k i).isSome = true
     rw [hold k i hk]; exact h.rng v k i hw
 · exact h
end Go.Ren
namespace Go.Ren
set_option linter.unusedVariables false
def shPsh (s : Shm) (e : Ev) (P : List (Int × Int)) : Shm := ⟨s.n, s.room, s.M, s.Q, pushL s.L e P⟩
theorem psh_nil (s : Shm) (e : Ev) : shPsh s e [] = shPush s e := by unfold shPsh shPush pushL; rw [List.append_nil]
theorem EIn.push {L : Lg} {a : Nat} {x : Ent} (h : EIn L a x) (e : Ev) (P : List (Int × Int)) : EIn (pushL L e P) a x := by
 obtain ⟨v, h1, h2, h3⟩ := h
 exact ⟨v, h1, by rw [pushL_len]; omega, by rw [pushL_lt h2]; exact h3⟩
theorem wc_push {L : Lg} {e : Ev} {P : List (Int × Int)} {v : Nat} (hv : v < L.ev.length) {k i : Int} : WC (pushL L e P).ev v k i ↔ WC L.ev v k i := by
 unfold WC
 rw [pushL_lt hv, pushL_len]
 constructor
 · rintro ⟨_, h⟩; exact ⟨hv, h⟩
 · rintro ⟨_, h⟩; exact ⟨by omega, h⟩
theorem MOk.push {L : Lg} {k i : Nat} {b : UInt8} {y : Int} (h : MOk L k i b y) (e : Ev) (P : List (Int × Int)) : MOk (pushL L e P) k i b y := by
 rcases h with h | ⟨w, h1, h2, h3⟩
 · exact .inl h
 · exact .inr ⟨w, h1, (wc_push h2.1).2 h2, by rw [pushL_lt h2.1]; exact h3⟩
theorem MOk.lt {L : Lg} {k i : Nat} {b : UInt8} {y : Int} (h : MOk L k i b y) (hy : 0 ≤ y) : y.toNat < L.ev.length ∧ y = (y.toNat : Int) ∧ WC L.ev y.toNat k i ∧ b = vb (evn L.ev y.toNat) i := by
 rcases h with ⟨h, _⟩ | ⟨w, h1, h2, h3⟩
 · omega
 · have e : y.toNat = w := by omega
   rw [e]; exact ⟨h2.1, h1, h2, h3⟩
theorem VB.push {s : Shm} (h : VB s.L.ev.length s) {e : Ev} {P : List (Int × Int)} (hP : PTo s.L.ev.length P) {a : Nat} (ha : a < s.n) (hag : e.ag = (a : Int))
 (hs : ∀ u, u < s.L.ev.length → synB (pushL s.L e P) u s.L.ev.length = true → drnB (evn s.L.ev u) = true)
 (hd : drnB e = true → quB s (a : Int) = [])
 (hrng : ∀ k i : Nat, wrsB e = true → evCov e (k : Int) (i : Int) = true → (mb s.M k i).isSome = true)
 (ok' : ShOk (shPsh s e P)) : VB s.L.ev.length (shPsh s e P) := by
 have nd : ∀ x : Ev, x.kind = 2 → x.seq = false → drnB x = true → False := fun x h1 h2 h3 => by unfold drnB at h3; rw [h2, h1] at h3; simp at h3
 refine ⟨ok', h.qin, by show _ ≤ (pushL s.L e P).ev.length; rw [pushL_len]; omega, fun j hj x hx => (h.ent j hj x hx).push e P, h.old, h.srt, fun j hj x hx u k i hu hw hag' hlt => ?_, fun j hj x hx u hb => ?_, fun j hj x hx u hu hag' hdr => ?_, fun k i b y hm => (h.mem k i b y hm).push e P, fun k i b y hm v hv hw => ?_, fun k i b y hm hy v hv hw hsq hlt => ?_, fun k i j b y b' y' hm hm' hy hy' hn hn' heq => ?_, fun v k i hw => ?_⟩
 · have hw : WC (pushL s.L e P).ev u k i := hw
   have hag' : (evn (pushL s.L e P).ev u).ag = (j : Int) := hag'
   rw [wc_push hu] at hw
   rw [pushL_lt hu] at hag'
   exact h.fifo j hj x hx u k i hu hw hag' hlt
 · have hb : hbB (pushL s.L e P) x.by_.toNat u = true := hb
   show (evn (pushL s.L e P).ev u).ag = (j : Int)
   obtain ⟨v, hv, hvl, hve⟩ := h.ent j hj x hx
   have hvn : x.by_.toNat = v := by omega
   have hle := (push_rel hP _ _ hb).2.1
   by_cases hun : u < s.L.ev.length
   · rw [push_hb hP hun] at hb
     rw [pushL_lt hun]
     exact h.pnd j hj x hx u hb
   · obtain rfl : u = s.L.ev.length := by omega
     rw [pushL_at]
     obtain ⟨u0, hu0, h1, h2⟩ := push_new hP hb
     rcases h1 with h1 | h1
     · have e1 : u0 = v := by omega
       subst e1
       rcases h2 with h2 | h2
       · rw [← h2]; exact hve.ag
       · exact (nd _ hve.kind hve.seq (hs u0 hu0 h2)).elim
     · have hag0 := h.pnd j hj x hx u0 h1
       rcases h2 with h2 | h2
       · rw [← h2]; exact hag0
       · have h3 := h.drn j hj x hx u0 hu0 hag0 (hs u0 hu0 h2)
         have h4 := (hbB_lt h1).1
         omega
 · have hag' : (evn (pushL s.L e P).ev u).ag = (j : Int) := hag'
   have hdr : drnB (evn (pushL s.L e P).ev u) = true := hdr
   have hu : u < (pushL s.L e P).ev.length := hu
   rw [pushL_len] at hu
   by_cases hun : u < s.L.ev.length
   · rw [pushL_lt hun] at hag' hdr
     exact h.drn j hj x hx u hun hag' hdr
   · obtain rfl : u = s.L.ev.length := by omega
     rw [pushL_at] at hag' hdr
     have e1 : j = a := by omega
     subst e1
     have hx : x ∈ quB s (j : Int) := hx
     rw [hd hdr] at hx
     cases hx
 · have hw : WC (pushL s.L e P).ev v k i := hw
   rw [wc_push hv] at hw
   show Pend _ v k i ∨ (0 ≤ y ∧ hbB (pushL s.L e P) y.toNat v = false)
   rw [push_hb hP hv]
   exact h.app k i b y hm v hv hw
 · have hw : WC (pushL s.L e P).ev v k i := hw
   have hsq : (evn (pushL s.L e P).ev v).seq = true := hsq
   show (evn (pushL s.L e P).ev y.toNat).seq = false
   rw [wc_push hv] at hw
   rw [pushL_lt hv] at hsq
   rw [pushL_lt ((h.mem k i b y hm).lt hy).1]
   exact h.at1 k i b y hm hy v hv hw hsq hlt
 · have hn : (evn (pushL s.L e P).ev y.toNat).nt = true := hn
   have hn' : (evn (pushL s.L e P).ev y'.toNat).nt = true := hn'
   have heq : evEq (evn (pushL s.L e P).ev y.toNat) (evn (pushL s.L e P).ev y'.toNat) = true := heq
   rw [pushL_lt ((h.mem k i b y hm).lt hy).1] at hn heq
   rw [pushL_lt ((h.mem k j b' y' hm').lt hy').1] at hn' heq
   exact h.tear k i j b y b' y' hm hm' hy hy' hn hn' heq
 · have hw : WC (pushL s.L e P).ev v k i := hw
   have hvl := hw.1
   rw [pushL_len] at hvl
   by_cases hvn : v < s.L.ev.length
   · rw [wc_push hvn] at hw
     exact h.rng v k i hw
   · obtain rfl : v = s.L.ev.length := by omega
     obtain ⟨_, h1, h2⟩ := hw
     rw [pushL_at] at h1 h2
     exact hrng k i h1 h2
theorem VB.bump {n : Nat} {s : Shm} (h : VB n s) (hn : s.L.ev.length = n + 1) (hw : wrsB (evn s.L.ev n) = false) : VB (n + 1) s := by
 have key : ∀ v k i, v < n + 1 → WC s.L.ev v k i → v < n := fun v k i hv hc => by
  by_cases e : v = n
  · subst e; rw [hc.2.1] at hw; cases hw
  · omega
 exact ⟨h.ok, h.qin, by omega, h.ent, fun j hj x hx => by have := h.old j hj x hx; omega, h.srt, fun j hj x hx u k i hu hc => h.fifo j hj x hx u k i (key u k i hu hc) hc, h.pnd, h.drn, h.mem, fun k i b y hm v hv hc => h.app k i b y hm v (key v k i hv hc) hc,
  fun k i b y hm hy v hv hc => h.at1 k i b y hm hy v (key v k i hv hc) hc, h.tear, h.rng⟩
theorem VB.put {n : Nat} {s : Shm} (h : VB n s) (hn : s.L.ev.length = n + 1) {a : Nat} (ha : a < s.n) {x : Ent} (hx : EEv (evn s.L.ev n) a x) (hby : x.by_ = (n : Int)) (hfull : x.at_ = (evn s.L.ev n).at_)
 (hput : qput s.room (quB s (a : Int)) x = quB s (a : Int) ++ [x]) (ok' : ShOk (shPut s (a : Int) x)) (qin' : QIn (shPut s (a : Int) x)) : VB (n + 1) (shPut s (a : Int) x) := by
 unfold shPut at ok' qin' ⊢
 rw [Int.toNat_natCast, hput] at ok' qin' ⊢
 have hql : a < s.Q.length := by rw [h.ok.ql]; exact ha
 have qa : ∀ j : Nat, quB ⟨s.n, s.room, s.M, s.Q.set a (quB s (a : Int) ++ [x]), s.L⟩ (j : Int) = if j = a then quB s (a : Int) ++ [x] else quB s (j : Int) := fun j => quB_set hql j
 have hcov : ∀ k i : Nat, WC s.L.ev n k i → covE x k i = true := fun k i hw => by
  have h1 := evCov_iff.1 hw.2.2
  have h2 := hx.blk
  have h3 := hx.hi
  exact covE_iff.2 ⟨by omega, by omega, by omega⟩
 have el : ∀ j : Nat, ∀ y ∈ quB ⟨s.n, s.room, s.M, s.Q.set a (quB s (a : Int) ++ [x]), s.L⟩ (j : Int), y ∈ quB s (j : Int) ∨ (j = a ∧ y = x) := fun j y hy => by
  rw [qa j] at hy
  split at hy
  · rename_i e; subst e
    rcases List.mem_append.1 hy with hy | hy
    · exact .inl hy
    · exact .inr ⟨rfl, List.mem_singleton.1 hy⟩
  · exact .inl hy
 have up : ∀ j : Nat, ∀ y ∈ quB s (j : Int), y ∈ quB ⟨s.n, s.room, s.M, s.Q.set a (quB s (a : Int) ++ [x]), s.L⟩ (j : Int) := fun j y hy => by
  rw [qa j]
  split
  · rename_i e; subst e; exact List.mem_append_left _ hy
  · exact hy
 have xin : x ∈ quB ⟨s.n, s.room, s.M, s.Q.set a (quB s (a : Int) ++ [x]), s.L⟩ (a : Int) := by rw [qa a, if_pos rfl]; simp
 refine ⟨ok', qin', by show _ ≤ s.L.ev.length; omega, fun j hj y hy => ?_, fun j hj y hy => ?_, fun j hj => ?_, fun j hj y hy u k i hu hw hag hlt => ?_, fun j hj y hy u hb => ?_, fun j hj y hy u hu hag hd => ?_, h.mem, fun k i b y hm v hv hw => ?_, fun k i b y hm hy v hv hw hs hlt => ?_, h.tear, h.rng⟩
 · rcases el j y hy with h1 | ⟨rfl, rfl⟩
   · exact h.ent j hj y h1
   · exact ⟨n, hby, by show n < s.L.ev.length; omega, hx⟩
 · rcases el j y hy with h1 | ⟨rfl, rfl⟩
   · have := h.old j hj y h1; omega
   · omega
 · rw [qa j]
   split
   · rename_i e; subst e
     refine List.pairwise_append.2 ⟨h.srt j hj, List.pairwise_singleton _ _, fun y hy z hz => ?_⟩
     rw [List.mem_singleton.1 hz, hby]
     exact h.old j hj y hy
   · exact h.srt j hj
 · have hw : WC s.L.ev u k i := hw
   have hag : (evn s.L.ev u).ag = (j : Int) := hag
   by_cases e : u = n
   · subst e
     have : j = a := by have := hx.ag; omega
     subst this
     exact ⟨x, xin, hby, hcov k i hw⟩
   · rcases el j y hy with h1 | ⟨rfl, rfl⟩
     · obtain ⟨e', g1, g2, g3⟩ := h.fifo j hj y h1 u k i (by omega) hw hag hlt
       exact ⟨e', up j e' g1, g2, g3⟩
     · omega
 · rcases el j y hy with h1 | ⟨rfl, rfl⟩
   · exact h.pnd j hj y h1 u hb
   · have hb : hbB s.L y.by_.toNat u = true := hb
     have := hbB_lt hb
     omega
 · have hu : u < s.L.ev.length := hu
   rcases el j y hy with h1 | ⟨rfl, rfl⟩
   · exact h.drn j hj y h1 u hu hag hd
   · by_cases e : u = n
     · subst e
       exfalso
       have hd : drnB (evn s.L.ev u) = true := hd
       unfold drnB at hd
       rw [hx.seq, hx.kind] at hd
       simp at hd
     · omega
 · have hw : WC s.L.ev v k i := hw
   by_cases e : v = n
   · subst e
     exact .inl ⟨a, ha, x, xin, hby, hcov k i hw⟩
   · rcases h.app k i b y hm v (by omega) hw with ⟨j, hj, e', g1, g2, g3⟩ | h1
     · exact .inl ⟨j, hj, e', up j e' g1, g2, g3⟩
     · exact .inr h1
 · have hs : (evn s.L.ev v).seq = true := hs
   by_cases e : v = n
   · subst e; rw [hx.seq] at hs; cases hs
   · exact h.at1 k i b y hm hy v (by omega) hw hs hlt
theorem VB.write {n : Nat} {s : Shm} (h : VB n s) (hn : s.L.ev.length = n + 1) {a : Nat} (hag : (evn s.L.ev n).ag = (a : Int)) (hq : quB s (a : Int) = [])
 (hw : wrsB (evn s.L.ev n) = true) (hl : ((evn s.L.ev n).wr.length : Int) = (evn s.L.ev n).size) (hc : bcheck s.M (evn s.L.ev n).blk (evn s.L.ev n).at_ (evn s.L.ev n).wr.length = 0)
 (ok' : ShOk (shWrite s (evn s.L.ev n).blk (evn s.L.ev n).at_ (evn s.L.ev n).wr (n : Int))) (qin' : QIn (shWrite s (evn s.L.ev n).blk (evn s.L.ev n).at_ (evn s.L.ev n).wr (n : Int))) :
 VB (n + 1) (shWrite s (evn s.L.ev n).blk (evn s.L.ev n).at_ (evn s.L.ev n).wr (n : Int)) := by
 obtain ⟨E, hE⟩ : ∃ E, E = evn s.L.ev n := ⟨_, rfl⟩
 rw [← hE] at hag hw hl hc ok' qin' ⊢
 have hk0 : E.kind ≠ 0 := by have := wrsB_iff.1 hw; omega
 have hM : ∀ k i : Nat, mb (bwrite s.M E.blk E.at_ E.wr (n : Int)) k i = if evCov E (k : Int) (i : Int) = true then some (vb E i, (n : Int)) else mb s.M k i := fun k i => by
  rw [mb_write h.ok.bk]
  by_cases hcv : evCov E (k : Int) (i : Int) = true
  · have h1 := evCov_iff.1 hcv
    rw [if_pos hcv, if_pos ⟨hc, h1.2.1, h1.2.2.1, by omega⟩]; rfl
  · rw [if_neg hcv, if_neg (fun hh => hcv (evCov_iff.2 ⟨hk0, hh.2.1, hh.2.2.1, by omega⟩))]
 have wcn : ∀ k i : Nat, WC s.L.ev n (k : Int) (i : Int) ↔ evCov E (k : Int) (i : Int) = true := fun k i => by
  unfold WC
  rw [← hE, hw]
  constructor
  · exact fun h => h.2.2
  · exact fun h => ⟨by omega, rfl, h⟩
 refine ⟨ok', qin', by show _ ≤ s.L.ev.length; omega, h.ent, fun j hj x hx => by have := h.old j hj x hx; omega, h.srt, fun j hj x hx u k i hu hwc hag' hlt => ?_, h.pnd, h.drn, fun k i b y hm => ?_, fun k i b y hm v hv hwc => ?_, fun k i b y hm hy v hv hwc hs hlt => ?_, fun k i j b y b' y' hm hm' hy hy' hn1 hn1' heq => ?_, fun v k i hwc => ?_⟩
 · by_cases e : u = n
   · subst e
     exfalso
     have hag' : (evn s.L.ev u).ag = (j : Int) := hag'
     rw [← hE, hag] at hag'
     have : j = a := by omega
     subst this
     have hx : x ∈ quB s (j : Int) := hx
     rw [hq] at hx; cases hx
   · exact h.fifo j hj x hx u k i (by omega) hwc hag' hlt
 · have hm : mb (bwrite s.M E.blk E.at_ E.wr (n : Int)) k i = some (b, y) := hm
   rw [hM] at hm
   split at hm
   · rename_i hcv
     simp only [Option.some.injEq, Prod.mk.injEq] at hm
     exact .inr ⟨n, hm.2.symm, (wcn k i).2 hcv, by show b = vb (evn s.L.ev n) i; rw [← hE]; exact hm.1.symm⟩
   · exact h.mem k i b y hm
 · have hm : mb (bwrite s.M E.blk E.at_ E.wr (n : Int)) k i = some (b, y) := hm
   have hwc : WC s.L.ev v k i := hwc
   rw [hM] at hm
   split at hm
   · simp only [Option.some.injEq, Prod.mk.injEq] at hm
     refine .inr ⟨by omega, ?_⟩
     show hbB s.L y.toNat v = false
     cases hb : hbB s.L y.toNat v with
     | false => rfl
     | true => have := hbB_lt hb; omega
   · rename_i hcv
     by_cases e : v = n
     · subst e; exact absurd ((wcn k i).1 hwc) hcv
     · exact h.app k i b y hm v (by omega) hwc
 · have hm : mb (bwrite s.M E.blk E.at_ E.wr (n : Int)) k i = some (b, y) := hm
   have hwc : WC s.L.ev v k i := hwc
   rw [hM] at hm
   split at hm
   · simp only [Option.some.injEq, Prod.mk.injEq] at hm
     omega
   · rename_i hcv
     by_cases e : v = n
     · subst e; exact absurd ((wcn k i).1 hwc) hcv
     · exact h.at1 k i b y hm hy v (by omega) hwc hs hlt
 · have hm : mb (bwrite s.M E.blk E.at_ E.wr (n : Int)) k i = some (b, y) := hm
   have hm' : mb (bwrite s.M E.blk E.at_ E.wr (n : Int)) k j = some (b', y') := hm'
   have heq : evEq (evn s.L.ev y.toNat) (evn s.L.ev y'.toNat) = true := heq
   have key : ∀ (j : Nat) (b' : UInt8) (y' : Int), evCov E (k : Int) (j : Int) ≠ true → mb s.M k j = some (b', y') → 0 ≤ y' → evEq E (evn s.L.ev y'.toNat) = true → False := fun j b' y' h1 h2 h3 h4 => by
    have h5 := ((h.mem k j b' y' h2).lt h3).2.2.1
    have h6 := evCov_iff.1 h5.2.2
    have h7 := evq_iff.1 h4
    exact h1 (evCov_iff.2 ⟨hk0, by omega, by omega, by omega⟩)
   rw [hM] at hm hm'
   split at hm
   · rename_i hci
     split at hm'
     · simp only [Option.some.injEq, Prod.mk.injEq] at hm hm'
       omega
     · rename_i hcj
       exfalso
       simp only [Option.some.injEq, Prod.mk.injEq] at hm
       have hy0 : y.toNat = n := by omega
       rw [hy0, ← hE] at heq
       exact key j b' y' hcj hm' hy' heq
   · rename_i hci
     split at hm'
     · exfalso
       simp only [Option.some.injEq, Prod.mk.injEq] at hm'
       have hy0 : y'.toNat = n := by omega
       rw [hy0, ← hE] at heq
       have h9 := evq_iff.1 heq
       exact key i b y hci hm hy (evq_iff.2 ⟨h9.2.1, h9.1, h9.2.2.1.symm, h9.2.2.2.1.symm, h9.2.2.2.2.symm⟩)
     · exact h.tear k i j b y b' y' hm hm' hy hy' hn1 hn1' heq
 · show (mb (bwrite s.M E.blk E.at_ E.wr (n : Int)) k i).isSome = true
   rw [hM]
   split
   · rfl
   · exact h.rng v k i hwc
structure RdOk (L : Lg) (r : Nat) : Prop where
 coh : ∀ i, i < (evn L.ev r).fr.length → ∀ v, WC L.ev v (evn L.ev r).blk ((evn L.ev r).at_ + i) → hbB L v r = true → 0 ≤ frn L r i ∧ hbB L (frn L r i).toNat v = false
 sq : (evn L.ev r).seq = true → ∀ i, i < (evn L.ev r).fr.length → ∀ v, v < r → WC L.ev v (evn L.ev r).blk ((evn L.ev r).at_ + i) → (evn L.ev v).seq = true → 0 ≤ frn L r i ∧ hbB L (frn L r i).toNat v = false
 at1 : ∀ i, i < (evn L.ev r).fr.length → 0 ≤ frn L r i → ∀ v, v < r → WC L.ev v (evn L.ev r).blk ((evn L.ev r).at_ + i) → (evn L.ev v).seq = true → frn L r i < (v : Int) → (evn L.ev (frn L r i).toNat).seq = false
 tear : (evn L.ev r).nt = true → ∀ i j, i < (evn L.ev r).fr.length → j < (evn L.ev r).fr.length → 0 ≤ frn L r i → 0 ≤ frn L r j → (evn L.ev (frn L r i).toNat).nt = true → (evn L.ev (frn L r j).toNat).nt = true → evEq (evn L.ev r) (evn L.ev (frn L r i).toNat) = true → evEq (evn L.ev r) (evn L.ev (frn L r j).toNat) = true → frn L r i = frn L r j
theorem RdOk.push {L : Lg} (hm : mayL L = true) {e : Ev} {P : List (Int × Int)} (hP : PTo L.ev.length P) {r : Nat} (hr : r < L.ev.length) (h : RdOk L r) : RdOk (pushL L e P) r := by
 have er : evn (pushL L e P).ev r = evn L.ev r := pushL_lt hr
 have ef : ∀ i, frn (pushL L e P) r i = frn L r i := fun i => by unfold frn; rw [er]
 have fl : ∀ i, i < (evn L.ev r).fr.length → (frn L r i).toNat < L.ev.length := fun i hi => by
  rcases frn_may hm hr hi with h1 | ⟨a, h1, h2⟩ <;> omega
 refine ⟨?_, ?_, ?_, ?_⟩
 · rw [er]
   intro i hi v hw hb
   rw [push_hb hP hr] at hb
   have hv := (hbB_lt hb).1
   rw [wc_push (by omega)] at hw
   rw [ef, push_hb hP (by omega)]
   exact h.coh i hi v hw hb
 · rw [er]
   intro hs i hi v hv hw hsv
   rw [wc_push (by omega)] at hw
   rw [pushL_lt (by omega)] at hsv
   rw [ef, push_hb hP (by omega)]
   exact h.sq hs i hi v hv hw hsv
 · rw [er]
   intro i hi h0 v hv hw hsv hlt
   rw [wc_push (by omega)] at hw
   rw [pushL_lt (by omega)] at hsv
   rw [ef] at h0 hlt ⊢
   rw [pushL_lt (fl i hi)]
   exact h.at1 i hi h0 v hv hw hsv hlt
 · rw [er]
   intro hn i j hi hj h0 h1 h2 h3 h4 h5
   rw [ef] at h0 h1 h2 h3 h4 h5
   rw [ef, ef]
   rw [pushL_lt (fl i hi)] at h2 h4
   rw [pushL_lt (fl j hj)] at h3 h5
   exact h.tear hn i j hi hj h0 h1 h2 h3 h4 h5
theorem lastE_max {E : List Ent} (hs : E.Pairwise fun x y => x.by_ < y.by_) (k i : Nat) (d : Option (UInt8 × Int)) : ((∀ e ∈ E, covE e k i = false) ∧ lastE E k i d = d) ∨ ∃ e ∈ E, covE e k i = true ∧ lastE E k i d = some (valE e i) ∧ ∀ x ∈ E, covE x k i = true → x.by_ ≤ e.by_ := by
 induction E generalizing d with
 | nil => exact .inl ⟨fun e he => (by cases he), rfl⟩
 | cons e E ih =>
  obtain ⟨h1, h2⟩ := pw_head hs
  rw [lastE_cons]
  rcases ih h2 (if covE e k i = true then some (valE e i) else d) with ⟨g1, g2⟩ | ⟨e', g1, g2, g3, g4⟩
  · cases hc : covE e k i with
    | true =>
     rw [hc, if_pos rfl] at g2
     refine .inr ⟨e, by simp, hc, by rw [if_pos rfl]; exact g2, fun x hx hcx => ?_⟩
     rcases List.mem_cons.1 hx with rfl | hx
     · exact Int.le_refl _
     · rw [g1 x hx] at hcx; cases hcx
    | false =>
     rw [hc, if_neg (by simp)] at g2
     refine .inl ⟨fun x hx => ?_, by rw [if_neg (by simp)]; exact g2⟩
     rcases List.mem_cons.1 hx with rfl | hx
     · exact hc
     · exact g1 x hx
  · refine .inr ⟨e', by simp [g1], g2, g3, fun x hx hcx => ?_⟩
    rcases List.mem_cons.1 hx with rfl | hx
    · have := h1 e' g1; omega
    · exact g4 x hx hcx
structure Rds (s : Shm) (a : Nat) (e : Ev) : Prop where
 sz : (e.fr.length : Int) ≤ e.size
 kd : e.kind ≠ 0
 at_ : ∀ j, j < e.fr.length → ∃ (k p : Nat) (b : UInt8) (y : Int), e.blk = (k : Int) ∧ e.at_ + j = (p : Int) ∧ lastE (quB s (a : Int)) k p (mb s.M k p) = some (b, y) ∧ e.fr[j]? = some y ∧ e.rd[j]? = some b
theorem RdOk.new {n : Nat} {s : Shm} (h : VB n s) (hn : s.L.ev.length = n + 1) {a : Nat} (ha : a < s.n) (hag : (evn s.L.ev n).ag = (a : Int)) (hseq : (evn s.L.ev n).seq = true → quB s (a : Int) = []) (hr : Rds s a (evn s.L.ev n)) : RdOk s.L n := by
 obtain ⟨E, hE⟩ : ∃ E, E = evn s.L.ev n := ⟨_, rfl⟩
 have fr : ∀ j y, E.fr[j]? = some y → frn s.L n j = y := fun j y hy => by
  unfold frn
  rw [← hE, List.getD_eq_getElem?_getD, hy]; rfl
 rw [← hE] at hag hseq hr
 have wcp : ∀ {v : Nat} {j k p : Nat}, E.blk = (k : Int) → E.at_ + j = (p : Int) → WC s.L.ev v E.blk (E.at_ + j) → WC s.L.ev v (k : Int) (p : Int) := fun h1 h2 h3 => by rw [← h1, ← h2]; exact h3
 have pn : ∀ v k p : Nat, Pend s v k p → hbB s.L v n = true → ∃ e ∈ quB s (a : Int), covE e k p = true := by
  rintro v k p ⟨j, hj, x, hx, h1, h2⟩ hb
  have h3 := h.pnd j hj x hx n (by rw [show x.by_.toNat = v by omega]; exact hb)
  rw [← hE, hag] at h3
  have : j = a := by omega
  subst this
  exact ⟨x, hx, h2⟩
 have pseq : ∀ v k p : Nat, Pend s v k p → (evn s.L.ev v).seq = false := by
  rintro v k p ⟨j, hj, x, hx, h1, h2⟩
  obtain ⟨v0, g1, g2, g3⟩ := h.ent j hj x hx
  rw [show v = v0 by omega]; exact g3.seq
 refine ⟨?_, ?_, ?_, ?_⟩
 · rw [← hE]
   intro i hi v hw hb
   have hv := (hbB_lt hb).1
   obtain ⟨k, p, b, y, h1, h2, h3, h4, h5⟩ := hr.at_ i hi
   rw [fr i y h4]
   have hw := wcp h1 h2 hw
   rcases lastE_max (h.srt a ha) k p (mb s.M k p) with ⟨g1, g2⟩ | ⟨e', g1, g2, g3, g4⟩
   · rw [g2] at h3
     rcases h.app k p b y h3 v (by omega) hw with h6 | h6
     · obtain ⟨x, hx, hc⟩ := pn v k p h6 hb
       rw [g1 x hx] at hc; cases hc
     · exact h6
   · rw [g3] at h3
     simp only [valE, Option.some.injEq, Prod.mk.injEq] at h3
     obtain ⟨v0, k1, k2, k3⟩ := h.ent a ha e' g1
     refine ⟨by omega, ?_⟩
     cases hb' : hbB s.L y.toNat v with
     | false => rfl
     | true =>
      exfalso
      rw [← h3.2] at hb'
      have h7 := h.pnd a ha e' g1 v hb'
      have h8 := (hbB_lt hb').1
      obtain ⟨x, hx, k4, k5⟩ := h.fifo a ha e' g1 v k p (by omega) hw h7 (by omega)
      have := g4 x hx k5
      omega
 · rw [← hE]
   intro hs i hi v hv hw hsv
   obtain ⟨k, p, b, y, h1, h2, h3, h4, h5⟩ := hr.at_ i hi
   rw [fr i y h4]
   have hw := wcp h1 h2 hw
   rw [hseq hs, lastE_nil] at h3
   rcases h.app k p b y h3 v (by omega) hw with h6 | h6
   · rw [pseq v k p h6] at hsv; cases hsv
   · exact h6
 · rw [← hE]
   intro i hi h0 v hv hw hsv hlt
   obtain ⟨k, p, b, y, h1, h2, h3, h4, h5⟩ := hr.at_ i hi
   rw [fr i y h4] at h0 hlt ⊢
   have hw := wcp h1 h2 hw
   rcases lastE_max (h.srt a ha) k p (mb s.M k p) with ⟨g1, g2⟩ | ⟨e', g1, g2, g3, g4⟩
   · rw [g2] at h3
     exact h.at1 k p b y h3 h0 v (by omega) hw hsv hlt
   · rw [g3] at h3
     simp only [valE, Option.some.injEq, Prod.mk.injEq] at h3
     obtain ⟨v0, k1, k2, k3⟩ := h.ent a ha e' g1
     rw [show y.toNat = v0 by omega]
     exact k3.seq
 · rw [← hE]
   intro hnt i j hi hj h0 h1 n1 n2 q1 q2
   obtain ⟨k, p, b, y, a1, a2, a3, a4, a5⟩ := hr.at_ i hi
   obtain ⟨k', p', b', y', c1, c2, c3, c4, c5⟩ := hr.at_ j hj
   have : k' = k := by omega
   subst this
   rw [fr i y a4] at h0 n1 q1 ⊢
   rw [fr j y' c4] at h1 n2 q2 ⊢
   have hsz := hr.sz
   have e1 := evq_iff.1 q1
   have e2 := evq_iff.1 q2
   have own : ∀ (p p' : Nat) (e' : Ent), e' ∈ quB s (a : Int) → (evn s.L.ev e'.by_.toNat).nt = true → evEq E (evn s.L.ev e'.by_.toNat) = true → E.at_ ≤ (p' : Int) → (p' : Int) < E.at_ + E.size → covE e' k' p' = true := fun p p' e' g1 g2 g3 g4 g5 => by
    obtain ⟨v0, k1, k2, k3⟩ := h.ent a ha e' g1
    rw [show e'.by_.toNat = v0 by omega] at g2 g3
    have e3 := evq_iff.1 g3
    exact k3.full g2 (evCov_iff.2 ⟨e3.2.1, by omega, by omega, by omega⟩)
   rcases lastE_max (h.srt a ha) k' p (mb s.M k' p) with ⟨g1, g2⟩ | ⟨x1, g1, g2, g3, g4⟩
   · rw [g2] at a3
     rcases lastE_max (h.srt a ha) k' p' (mb s.M k' p') with ⟨f1, f2⟩ | ⟨x2, f1, f2, f3, f4⟩
     · rw [f2] at c3
       exact h.tear k' p p' b y b' y' a3 c3 h0 h1 n1 n2 (evq_iff.2 ⟨e1.2.1, e2.2.1, by omega, by omega, by omega⟩)
     · rw [f3] at c3
       simp only [valE, Option.some.injEq, Prod.mk.injEq] at c3
       rw [← c3.2] at n2 q2
       have := own p' p x2 f1 n2 q2 (by omega) (by omega)
       rw [g1 x2 f1] at this; cases this
   · rw [g3] at a3
     simp only [valE, Option.some.injEq, Prod.mk.injEq] at a3
     rw [← a3.2] at n1 q1
     have hc1 := own p p' x1 g1 n1 q1 (by omega) (by omega)
     rcases lastE_max (h.srt a ha) k' p' (mb s.M k' p') with ⟨f1, f2⟩ | ⟨x2, f1, f2, f3, f4⟩
     · rw [f1 x1 g1] at hc1; cases hc1
     · rw [f3] at c3
       simp only [valE, Option.some.injEq, Prod.mk.injEq] at c3
       rw [← c3.2] at n2 q2
       have hc2 := own p' p x2 f1 n2 q2 (by omega) (by omega)
       have h3 := f4 x1 g1 hc1
       have h4 := g4 x2 f1 hc2
       omega
end Go.Ren
namespace Go.Ren
set_option linter.unusedVariables false
structure VI (s : Shm) : Prop where
 vb : VB s.L.ev.length s
 may : mayL s.L = true
 rd : ∀ r, r < s.L.ev.length → RdOk s.L r
 pr : ∀ p ∈ s.L.pr, ∃ j : Nat, p.2 = (j : Int) ∧ j < s.L.ev.length ∧ (evn s.L.ev j).kind = 0
theorem VI.flush {s : Shm} (h : VI s) {a : Nat} (ha : a < s.n) : VI (shFlush s (a : Int)) := ⟨h.vb.flush ha, h.may, h.rd, h.pr⟩
theorem VI.tearS {s : Shm} (h : VI s) {a : Nat} (ha : a < s.n) : VI (shTear s (a : Int)) := ⟨h.vb.tearS ha, h.may, h.rd, h.pr⟩
theorem VI.drain {s : Shm} (h : VI s) {a : Nat} (ha : a < s.n) : VI (shDrain s (a : Int)) := ⟨h.vb.drain ha, h.may, h.rd, h.pr⟩
theorem VI.make {s : Shm} (h : VI s) (size : Int) : VI (shMake s size).2 := ⟨h.vb.make size, h.may, h.rd, h.pr⟩
theorem VI.room_ {s : Shm} (h : VI s) {a : Nat} (ha : a < s.n) : VI (shRoom s (a : Int)) := by unfold shRoom; split; exact h.flush ha; exact h
theorem syn_new {s : Shm} (hk : ShOk s) {e : Ev} {P : List (Int × Int)} {u : Nat} (hu : u < s.L.ev.length) (h : synB (pushL s.L e P) u s.L.ev.length = true) : (evn s.L.ev u).seq = true ∨ ((u : Int), (s.L.ev.length : Int)) ∈ P := by
 unfold synB at h
 rw [Bool.or_eq_true] at h
 rcases h with h | h
 · unfold synE at h
   simp only [Bool.and_eq_true] at h
   rw [pushL_lt hu] at h
   exact .inl h.1.1.2
 · rw [List.contains_iff_mem] at h
   rcases List.mem_append.1 h with h | h
   · have h1 := hk.prk _ h
     unfold prOk at h1
     rw [decide_eq_true_eq] at h1
     have h2 : (s.L.ev.length : Int) < (s.L.ev.length : Int) := h1.2.2
     omega
   · exact .inr h
theorem RdOk.none {L : Lg} {r : Nat} (h : (evn L.ev r).fr = []) : RdOk L r := by
 refine ⟨?_, ?_, ?_, ?_⟩
 all_goals rw [h]
 · exact fun i hi => absurd hi (Nat.not_lt_zero _)
 · exact fun _ i hi => absurd hi (Nat.not_lt_zero _)
 · exact fun i hi => absurd hi (Nat.not_lt_zero _)
 · exact fun _ i j hi => absurd hi (Nat.not_lt_zero _)
theorem VB.sees {N : Nat} {s : Shm} (h : VB N s) {a : Nat} (ha : a < s.n) {k p : Nat} {b : UInt8} {y : Int} (hl : lastE (quB s (a : Int)) k p (mb s.M k p) = some (b, y)) : MOk s.L k p b y := by
 rcases lastE_max (h.srt a ha) k p (mb s.M k p) with ⟨g1, g2⟩ | ⟨e', g1, g2, g3, g4⟩
 · rw [g2] at hl; exact h.mem k p b y hl
 · rw [g3] at hl
   simp only [valE, Option.some.injEq, Prod.mk.injEq] at hl
   obtain ⟨v0, k1, k2, k3⟩ := h.ent a ha e' g1
   have h1 := k3.wc g2
   have h2 := covE_iff.1 g2
   exact .inr ⟨v0, by omega, ⟨k2, h1.1, h1.2⟩, by rw [← hl.1]; exact k3.val p h2.2.1 h2.2.2⟩
theorem reads_ok {N : Nat} {s : Shm} (h : VB N s) {a : Nat} (ha : a < s.n) {e : Ev} (hr : Rds s a e) : evReads (s.L.ev ++ [e]) s.L.ev.length = true := by
 rw [evReads_iff, evn_at]
 intro j hj
 obtain ⟨k, p, b, y, h1, h2, h3, h4, h5⟩ := hr.at_ j hj
 have hm := h.sees ha h3
 unfold evRead1
 rw [evn_at]
 have e1 : e.fr.getD j 0 = y := by rw [List.getD_eq_getElem?_getD, h4]; rfl
 have e2 : e.rd.getD j 0 = b := by rw [List.getD_eq_getElem?_getD, h5]; rfl
 simp only [e1, e2]
 rcases hm with ⟨m1, m2⟩ | ⟨w, m1, m2, m3⟩
 · rw [if_pos m1, m2]; rfl
 · have hw := m2.1
   rw [if_neg (by omega), if_neg (by omega), show y.toNat = w by omega, evn_lt hw, h1, h2, m2.2.1, m2.2.2, m3]
   unfold vb
   simp
theorem push_may {s : Shm} (hm : mayL s.L = true) (hl : s.L.ev.length < 1000) {e : Ev} {P : List (Int × Int)} (h1 : evOk1 (s.L.ev ++ [e]) s.L.ev.length = true) (hP : s.L.pr.length + P.length ≤ 1000 ∧ ∀ p ∈ P, prOk (s.L.ev.length + 1) p = true) : mayL (pushL s.L e P) = true := by
 have h2 := mayL_snoc hm (by omega) e
 rw [h1] at h2
 obtain ⟨⟨g1, g2⟩, g3, g4⟩ := mayL_iff.1 h2
 refine mayL_iff.2 ⟨⟨g1, by show (s.L.pr ++ P).length ≤ 1000; simp; omega⟩, g3, fun i hi => ?_⟩
 show prOk (s.L.ev ++ [e]).length (prn (s.L.pr ++ P) i) = true
 have hi : i < (s.L.pr ++ P).length := hi
 rw [prn_eq hi]
 have hmem := List.getElem_mem hi
 rcases List.mem_append.1 hmem with h | h
 · obtain ⟨j, hj, e1⟩ := List.getElem_of_mem h
   rw [← e1, ← prn_eq hj]
   exact g4 j hj
 · rw [List.length_append, List.length_singleton]; exact hP.2 _ h
theorem VI.psh {s : Shm} (h : VI s) (hl : s.L.ev.length < 1000) {e : Ev} {P : List (Int × Int)} (hP : PTo s.L.ev.length P) {a : Nat} (ha : a < s.n) (hag : e.ag = (a : Int))
 (hs : ∀ u, u < s.L.ev.length → synB (pushL s.L e P) u s.L.ev.length = true → drnB (evn s.L.ev u) = true)
 (hd : drnB e = true → quB s (a : Int) = [])
 (hrng : ∀ k i : Nat, wrsB e = true → evCov e (k : Int) (i : Int) = true → (mb s.M k i).isSome = true)
 (hf : evFields e = true) (hrd : e.fr = [] ∨ Rds s a e)
 (hPl : s.L.pr.length + P.length ≤ 1000 ∧ ∀ p ∈ P, prOk (s.L.ev.length + 1) p = true) (hPk : P = [] ∨ e.kind = 0)
 (ok' : ShOk (shPsh s e P)) : VB s.L.ev.length (shPsh s e P) ∧ mayL (pushL s.L e P) = true ∧ (∀ r, r < s.L.ev.length + 1 → RdOk (pushL s.L e P) r) ∧ ∀ p ∈ (pushL s.L e P).pr, ∃ j : Nat, p.2 = (j : Int) ∧ j < s.L.ev.length + 1 ∧ (evn (pushL s.L e P).ev j).kind = 0 := by
 have hv := h.vb.push hP ha hag hs hd hrng ok'
 have hn1 := h.vb.ok.n1
 have hm : mayL (pushL s.L e P) = true := by
  refine push_may h.may hl ?_ hPl
  unfold evOk1
  rw [evn_at, hf]
  have h1 : decide (0 ≤ e.ag ∧ e.ag < 64) = true := by rw [decide_eq_true_eq]; omega
  rw [h1]
  rcases hrd with h2 | h2
  · have : evReads (s.L.ev ++ [e]) s.L.ev.length = true := evReads_iff.2 fun j hj => by rw [evn_at, h2] at hj; exact absurd hj (Nat.not_lt_zero _)
    rw [this]; rfl
  · rw [reads_ok h.vb ha h2]; rfl
 refine ⟨hv, hm, fun r hr => ?_, fun p hp => ?_⟩
 · by_cases e0 : r < s.L.ev.length
   · exact (h.rd r e0).push h.may hP e0
   · obtain rfl : r = s.L.ev.length := by omega
     rcases hrd with h2 | h2
     · exact RdOk.none (by rw [pushL_at]; exact h2)
     · exact RdOk.new (s := shPsh s e P) hv pushL_len ha (by show (evn (pushL s.L e P).ev _).ag = _; rw [pushL_at]; exact hag) (fun hsq => hd (by
        have hsq : (evn (pushL s.L e P).ev s.L.ev.length).seq = true := hsq
        rw [pushL_at] at hsq
        unfold drnB; rw [hsq]; simp)) (by
        show Rds (shPsh s e P) a (evn (pushL s.L e P).ev s.L.ev.length)
        rw [pushL_at]
        exact ⟨h2.sz, h2.kd, h2.at_⟩)
 · rcases List.mem_append.1 hp with hp | hp
   · obtain ⟨j, h1, h2, h3⟩ := h.pr p hp
     exact ⟨j, h1, by omega, by rw [pushL_lt h2]; exact h3⟩
   · rcases hPk with h2 | h2
     · rw [h2] at hp; cases hp
     · exact ⟨s.L.ev.length, hP p hp, by omega, by rw [pushL_at]; exact h2⟩
theorem VI.of {n : Nat} {s : Shm} (hn : s.L.ev.length = n + 1) (hv : VB (n + 1) s) (hm : mayL s.L = true) (hr : ∀ r, r < n + 1 → RdOk s.L r) (hp : ∀ p ∈ s.L.pr, ∃ j : Nat, p.2 = (j : Int) ∧ j < n + 1 ∧ (evn s.L.ev j).kind = 0) : VI s :=
 ⟨by rw [hn]; exact hv, hm, by rw [hn]; exact hr, by rw [hn]; exact hp⟩
theorem rds_view {s : Shm} (hk : ShOk s) (hq : QIn s) {i : Nat} {k a size : Int} (hA : Asked s (i : Int) k a size) {e : Ev} (h1 : e.blk = k) (h2 : e.at_ = a) (h3 : e.size = size) (h4 : e.kind ≠ 0) (hf : e.fr = breadY (view s (i : Int)) k a size) (hr : e.rd = breadB (view s (i : Int)) k a size) : Rds s i e := by
 obtain ⟨i', hi0, hi⟩ := hA.ag
 have hii : i = i' := by omega
 subst hii
 have hbk : BOk (view s (i : Int)) := bok_drain hk.bk (hk.qe i hi)
 have hc : bcheck (view s (i : Int)) k a size = 0 := by unfold view; rw [(qdrainM_size _ _ _).1]; exact hA.chk
 obtain ⟨c1, c2, c3, c4, c5, c6⟩ := bcheck_0 hc
 obtain ⟨k, rfl⟩ : ∃ j : Nat, k = j := ⟨k.toNat, by omega⟩
 have hlen := bread_len20 hbk (k := (k : Int)) (a := a) (n := size)
 have hl2 := hlen.2.2 hc
 have hsz := hA.sz
 refine ⟨by rw [hf, ← hlen.1, hl2, h3]; omega, h4, fun j hj => ?_⟩
 rw [hf, ← hlen.1, hl2] at hj
 obtain ⟨g1, g2⟩ := bread_get hbk hc j
 rw [if_pos hj] at g1 g2
 obtain ⟨q1, q2, q3, q4⟩ := bcheck_nat.1 hc
 obtain ⟨b, y, hb, _⟩ := mb_get hbk q1 (i := a.toNat + j) (by omega)
 rw [hb] at g1 g2
 have hd := mb_drain hk.bk (hk.qe i hi) (hq i hi) k (a.toNat + j)
 refine ⟨k, a.toNat + j, b, y, h1, by rw [h2]; omega, ?_, by rw [hf, g2]; rfl, by rw [hr, g1]; rfl⟩
 rw [← hd]; exact hb
theorem asked_blk {s : Shm} (hk : ShOk s) {ag k a size : Int} (hA : Asked s ag k a size) : 0 ≤ k ∧ k < 16 ∧ 1 ≤ size ∧ size ≤ 8 ∧ 0 ≤ a ∧ a ≤ 256 - size := by
 obtain ⟨r1, r2, r3, r4, r5, r6, r7⟩ := hA.rng hk
 obtain ⟨c1, c2, c3, c4, c5, c6⟩ := bcheck_0 hA.chk
 have := hk.bk.cnt
 have := hA.sz
 omega
theorem asked_rng {s : Shm} (hk : ShOk s) {ag k a size : Int} (hA : Asked s ag k a size) {e : Ev} (h1 : e.blk = k) (h2 : e.at_ = a) (h3 : e.size = size) : ∀ q i : Nat, evCov e (q : Int) (i : Int) = true → (mb s.M q i).isSome = true := by
 intro q i hc
 have h4 := evCov_iff.1 hc
 have hchk := hA.chk
 rw [show k = (q : Int) by omega] at hchk
 obtain ⟨q1, q2, q3, q4⟩ := bcheck_nat.1 hchk
 exact (mb_some hk.bk).2 ⟨q1, by omega⟩
theorem acc_fields {e : Ev} (hk : e.kind = 1 ∨ e.kind = 2 ∨ e.kind = 3) (h3 : e.kind = 3 → e.seq = true ∧ e.nt = true) (hr : 0 ≤ e.blk ∧ e.blk < 16 ∧ 1 ≤ e.size ∧ e.size ≤ 8 ∧ 0 ≤ e.at_ ∧ e.at_ ≤ 256 - e.size)
 (h4 : (e.rd.length : Int) = if rdsB e then e.size else 0) (h5 : (e.fr.length : Int) = if rdsB e then e.size else 0) (h6 : (e.wr.length : Int) = if wrsB e then e.size else 0) : evFields e = true := by
 unfold evFields
 rw [if_neg (by omega)]
 simp only [Bool.and_eq_true, decide_eq_true_eq, Bool.or_eq_true]
 refine ⟨⟨⟨hk, ?_⟩, hr⟩, h4, h5, h6⟩
 by_cases e : e.kind = 3
 · exact .inr (h3 e)
 · exact .inl e
theorem no_syn {s : Shm} (hk : ShOk s) {e : Ev} : ∀ u, u < s.L.ev.length → synB (pushL s.L e []) u s.L.ev.length = true → drnB (evn s.L.ev u) = true := fun u hu h => by
 rcases syn_new hk hu h with h1 | h1
 · unfold drnB; rw [h1]; simp
 · cases h1
theorem VI.load {s : Shm} (h : VI s) {ag k a size : Int} (hA : Asked s ag k a size) (hl : s.L.ev.length < 1000) (seq nt : Bool) (hsq : seq = true → quB s ag = []) : VI (shLd s ag k a size seq nt) := by
 have hk := h.vb.ok
 have okp := hk.ld (seq := seq) (nt := nt) hA hl
 obtain ⟨v1, v2⟩ := ld_view hk h.vb.qin hA
 have hb := asked_blk hk hA
 have hlf := ld_facts hk hA
 obtain ⟨i, rfl, hi⟩ := hA.ag
 unfold shLd at okp ⊢
 obtain ⟨e, he⟩ : ∃ e : Ev, e = ⟨(i : Int), 1, seq, nt, k, a, size, ldB s (i : Int) k a size, [], ldY s (i : Int) k a size⟩ := ⟨_, rfl⟩
 rw [← he] at okp ⊢
 rw [← psh_nil] at okp ⊢
 have hr : rdsB e = true := by subst he; rfl
 have hw : wrsB e = false := by subst he; rfl
 obtain ⟨p1, p2, p3, p4⟩ := h.psh hl (e := e) (pto_nil _) hi (by subst he; rfl) (no_syn hk) (fun hd => by subst he; exact hsq (by simpa [drnB] using hd)) (fun q j hh => by rw [hw] at hh; cases hh)
  (acc_fields (by subst he; exact .inl rfl) (by subst he; intro hh; cases hh) (by subst he; exact hb) (by rw [hr]; subst he; show ((ldB _ _ _ _ _).length : Int) = size; omega) (by rw [hr]; subst he; show ((ldY _ _ _ _ _).length : Int) = size; omega) (by rw [hw]; subst he; rfl))
  (.inr (rds_view hk h.vb.qin hA (by subst he; rfl) (by subst he; rfl) (by subst he; rfl) (by subst he; simp) (by subst he; exact v2) (by subst he; exact v1)))
  ⟨by have := hk.pr; simp; omega, fun p hp => by cases hp⟩ (.inl rfl) okp
 exact VI.of (n := s.L.ev.length) pushL_len (p1.bump pushL_len (by show wrsB (evn (pushL s.L e []).ev _) = false; rw [pushL_at]; exact hw)) p2 p3 p4
theorem VI.whole {s : Shm} (h : VI s) {ag k a size : Int} (hA : Asked s ag k a size) (hl : s.L.ev.length < 1000) (hq : quB s ag = []) (w : Nat) (put : Bool) : VI (shWhole s ag k a size w put) := by
 have hk := h.vb.ok
 have okw := hk.whole (w := w) (put := put) hA hl
 have qinw := h.vb.qin.whole ag k a size w put
 have hb := asked_blk hk hA
 have hl0 := bread_len20 hk.bk (k := k) (a := a) (n := size)
 have hl2 := hl0.2.2 hA.chk
 have okc := hk.whole (w := w) (put := false) hA hl
 have hsz := hA.sz
 obtain ⟨r1, r2, r3, r4, r5, r6, r7⟩ := hA.rng hk
 obtain ⟨i, rfl, hi⟩ := hA.ag
 have hview : view s (i : Int) = s.M := by unfold view; rw [hq]; rfl
 have hbl : ((bytesN size.toNat w).length : Int) = size := by rw [bytesN_len]; omega
 unfold shWhole at okw qinw ⊢
 split
 · rename_i hp
   rw [if_pos hp] at okw qinw
   obtain ⟨e, he⟩ : ∃ e : Ev, e = chEv s (i : Int) k a size w := ⟨_, rfl⟩
   have okp : ShOk (shPush s e) := by
    subst he
    refine hk.push hl ⟨r1, i64_one rfl, r2, r3, r4, breadY_i hk.bk⟩ ⟨?_, ?_, ?_⟩
    · show (breadB _ _ _ _).length ≤ 8; omega
    · simp only [chEv, bytesN_len]; omega
    · show (breadY _ _ _ _).length ≤ 8; omega
   rw [← he] at okw qinw ⊢
   rw [← psh_nil] at okp okw qinw ⊢
   have hr : rdsB e = true := by subst he; rfl
   have hw : wrsB e = true := by subst he; rfl
   obtain ⟨p1, p2, p3, p4⟩ := h.psh hl (e := e) (pto_nil _) hi (by subst he; rfl) (no_syn hk) (fun _ => hq) (fun q j _ hc => asked_rng hk hA (by subst he; rfl) (by subst he; rfl) (by subst he; rfl) q j hc)
    (acc_fields (by subst he; exact .inr (.inr rfl)) (by subst he; exact fun _ => ⟨rfl, rfl⟩) (by subst he; exact hb) (by rw [hr]; subst he; show ((breadB _ _ _ _).length : Int) = size; omega) (by rw [hr]; subst he; show ((breadY _ _ _ _).length : Int) = size; omega) (by rw [hw]; subst he; exact hbl))
    (.inr (rds_view hk h.vb.qin hA (by subst he; rfl) (by subst he; rfl) (by subst he; rfl) (by subst he; simp [chEv]) (by subst he; rw [hview]; rfl) (by subst he; rw [hview]; rfl)))
    ⟨by have := hk.pr; simp; omega, fun p hp => by cases hp⟩ (.inl rfl) okp
   have en : evn (shPsh s e []).L.ev s.L.ev.length = e := pushL_at
   have f1 : e.blk = k := by subst he; rfl
   have f2 : e.at_ = a := by subst he; rfl
   have f3 : e.wr = bytesN size.toNat w := by subst he; rfl
   have f4 : e.size = size := by subst he; rfl
   have hwr := VB.write (n := s.L.ev.length) (s := shPsh s e []) p1 pushL_len (a := i) (by rw [en]; subst he; rfl) hq (by rw [en]; exact hw) (by rw [en, f3, f4]; exact hbl) (by rw [en, f1, f2, f3, hbl]; exact hA.chk) (by rw [en, f1, f2, f3]; exact okw) (by rw [en, f1, f2, f3]; exact qinw)
   rw [en, f1, f2, f3] at hwr
   exact VI.of (n := s.L.ev.length) pushL_len hwr p2 p3 p4
 · rename_i hp
   rw [if_neg hp] at okw qinw
   obtain ⟨e, he⟩ : ∃ e : Ev, e = whEv s (i : Int) k a size := ⟨_, rfl⟩
   rw [← he] at okw qinw ⊢
   rw [← psh_nil] at okw qinw ⊢
   have hr : rdsB e = true := by subst he; rfl
   have hw : wrsB e = false := by subst he; rfl
   obtain ⟨p1, p2, p3, p4⟩ := h.psh hl (e := e) (pto_nil _) hi (by subst he; rfl) (no_syn hk) (fun _ => hq) (fun q j hh => by rw [hw] at hh; cases hh)
    (acc_fields (by subst he; exact .inl rfl) (by subst he; intro hh; cases hh) (by subst he; exact hb) (by rw [hr]; subst he; show ((breadB _ _ _ _).length : Int) = size; omega) (by rw [hr]; subst he; show ((breadY _ _ _ _).length : Int) = size; omega) (by rw [hw]; subst he; rfl))
    (.inr (rds_view hk h.vb.qin hA (by subst he; rfl) (by subst he; rfl) (by subst he; rfl) (by subst he; simp [whEv]) (by subst he; rw [hview]; rfl) (by subst he; rw [hview]; rfl)))
    ⟨by have := hk.pr; simp; omega, fun p hp => by cases hp⟩ (.inl rfl) okw
   exact VI.of (n := s.L.ev.length) pushL_len (p1.bump pushL_len (by show wrsB (evn (pushL s.L e []).ev _) = false; rw [pushL_at]; exact hw)) p2 p3 p4
theorem VI.st0 {s : Shm} (h : VI s) {i : Nat} {k a size : Int} (hA : Asked s (i : Int) k a size) (hl : s.L.ev.length < 1000) (w : Nat) (seq nt : Bool) (hsq : seq = true → quB s (i : Int) = []) {e : Ev} (he : e = stEv (i : Int) k a size w seq nt) :
 VB s.L.ev.length (shPsh s e []) ∧ mayL (pushL s.L e []) = true ∧ (∀ r, r < s.L.ev.length + 1 → RdOk (pushL s.L e []) r) ∧ ∀ p ∈ (pushL s.L e []).pr, ∃ j : Nat, p.2 = (j : Int) ∧ j < s.L.ev.length + 1 ∧ (evn (pushL s.L e []).ev j).kind = 0 := by
 have hk := h.vb.ok
 have okp := hk.st0 (w := w) (seq := seq) (nt := nt) hA hl
 have hb := asked_blk hk hA
 have hsz := hA.sz
 have hbl : ((bytesN size.toNat w).length : Int) = size := by rw [bytesN_len]; omega
 obtain ⟨i', hi0, hi⟩ := hA.ag
 have hii : i = i' := by omega
 subst hii
 rw [← he, ← psh_nil] at okp
 have hr : rdsB e = false := by subst he; rfl
 have hw : wrsB e = true := by subst he; rfl
 exact h.psh hl (e := e) (pto_nil _) hi (by subst he; rfl) (no_syn hk) (fun hd => by subst he; exact hsq (by simpa [drnB, stEv] using hd)) (fun q j _ hc => asked_rng hk hA (by subst he; rfl) (by subst he; rfl) (by subst he; rfl) q j hc)
  (acc_fields (by subst he; exact .inr (.inl rfl)) (by subst he; intro hh; cases hh) (by subst he; exact hb) (by rw [hr]; subst he; rfl) (by rw [hr]; subst he; rfl) (by rw [hw]; subst he; exact hbl))
  (.inl (by subst he; rfl)) ⟨by have := hk.pr; simp; omega, fun p hp => by cases hp⟩ (.inl rfl) okp
theorem VI.st {s : Shm} (h : VI s) {ag k a size : Int} (hA : Asked s ag k a size) (hl : s.L.ev.length < 1000) (w : Nat) (seq nt : Bool) : VI (shSt s ag k a size w seq nt) := by
 have hk := h.vb.ok
 have ok' := hk.st (w := w) (seq := seq) (nt := nt) hA hl
 have qin' := h.vb.qin.st hk hA hl w seq nt
 have hb := asked_blk hk hA
 have hsz := hA.sz
 have hbl : ((bytesN size.toNat w).length : Int) = size := by rw [bytesN_len]; omega
 obtain ⟨i, rfl, hi⟩ := hA.ag
 obtain ⟨e, he⟩ : ∃ e : Ev, e = stEv (i : Int) k a size w seq nt := ⟨_, rfl⟩
 have f0 : e.ag = (i : Int) := by subst he; rfl
 have f1 : e.blk = k := by subst he; rfl
 have f2 : e.at_ = a := by subst he; rfl
 have f3 : e.wr = bytesN size.toNat w := by subst he; rfl
 have f4 : e.size = size := by subst he; rfl
 have f5 : e.kind = 2 := by subst he; rfl
 have f6 : e.seq = seq := by subst he; rfl
 have f7 : e.nt = nt := by subst he; rfl
 have hw : wrsB e = true := by subst he; rfl
 unfold shSt at ok' qin' ⊢
 rw [← he] at ok' qin' ⊢
 split
 · rename_i hc
   rw [if_pos hc] at ok' qin'
   have hq : quB (shDrain s (i : Int)) (i : Int) = [] := drain_q hk hi
   have hA' := hA.drain (i : Int)
   obtain ⟨p1, p2, p3, p4⟩ := (h.drain hi).st0 hA' hl w seq nt (fun _ => hq) he
   have e1 : shDrain (shPush s e) (i : Int) = shPsh (shDrain s (i : Int)) e [] := by rw [psh_nil]; rfl
   rw [e1] at ok' qin' ⊢
   have en : evn (shPsh (shDrain s (i : Int)) e []).L.ev s.L.ev.length = e := pushL_at (L := s.L)
   have hwr := VB.write (n := s.L.ev.length) (s := shPsh (shDrain s (i : Int)) e []) p1 (pushL_len (L := s.L)) (a := i) (by rw [en]; exact f0) hq (by rw [en]; exact hw) (by rw [en, f3, f4]; exact hbl) (by rw [en, f1, f2, f3, hbl]; exact hA'.chk) (by rw [en, f1, f2, f3]; exact ok') (by rw [en, f1, f2, f3]; exact qin')
   rw [en, f1, f2, f3] at hwr
   exact VI.of (n := s.L.ev.length) (pushL_len (L := s.L)) hwr p2 p3 p4
 · rename_i hc
   rw [if_neg hc] at ok' qin'
   have hseq : seq = false := by cases seq with | true => exact absurd (.inl rfl) hc | false => rfl
   have hroom : 0 < s.room := by rcases Nat.eq_zero_or_pos s.room with h0 | h0; exact absurd (.inr h0) hc; exact h0
   have hf := room_facts s (i : Int)
   have hA' : Asked (shRoom s (i : Int)) (i : Int) k a size := ⟨⟨i, rfl, by rw [hf.1]; exact hi⟩, hA.sz, bcheck_mono hf.2.2.2 hA.chk⟩
   have hL : (shRoom s (i : Int)).L = s.L := hf.2.2.1
   obtain ⟨p1, p2, p3, p4⟩ := (h.room_ hi).st0 hA' (by rw [hL]; exact hl) w seq nt (fun hh => by rw [hseq] at hh; cases hh) he
   have e1 : shRoom (shPush s e) (i : Int) = shPsh (shRoom s (i : Int)) e [] := by
    rw [psh_nil]
    unfold shRoom
    show (if s.room ≤ (quB s (i : Int)).length then _ else _) = _
    split <;> rfl
   rw [e1] at ok' qin' ⊢
   have hql : i < s.Q.length := by rw [hk.ql]; exact hi
   have hlen : (quB (shRoom s (i : Int)) (i : Int)).length < s.room := by
    unfold shRoom
    split
    · unfold shFlush
      rw [Int.toNat_natCast, quB_set hql, if_pos rfl, List.length_tail]
      have := hk.qc i hi
      omega
    · omega
   rw [hL] at p1
   have en : evn (shPsh (shRoom s (i : Int)) e []).L.ev s.L.ev.length = e := by
    show evn (pushL (shRoom s (i : Int)).L e []).ev s.L.ev.length = e
    rw [hL]; exact pushL_at
   have ln : (shPsh (shRoom s (i : Int)) e []).L.ev.length = s.L.ev.length + 1 := by
    show (pushL (shRoom s (i : Int)).L e []).ev.length = _
    rw [hL]; exact pushL_len
   have hp0 : qputE (shRoom s (i : Int)).room (quB (shRoom s (i : Int)) (i : Int)) ⟨k, a, bytesN size.toNat w, (s.L.ev.length : Int), !nt⟩ = 0 := by
    unfold qputE
    rw [if_neg (by simp only []; omega), if_neg (by rw [hf.2.1]; omega)]
   have hput := VB.put (n := s.L.ev.length) (s := shPsh (shRoom s (i : Int)) e []) p1 ln (a := i) (by show i < (shRoom s (i : Int)).n; rw [hf.1]; exact hi) (x := ⟨k, a, bytesN size.toNat w, (s.L.ev.length : Int), !nt⟩)
    (by rw [en]; exact ⟨f0, f5, by rw [f6, hseq], f1.symm, by rw [f2]; exact Int.le_refl _, by rw [f2, f4]; show a + ((bytesN size.toNat w).length : Int) = _; omega, fun j _ _ => by show _ = e.wr.getD (j - e.at_).toNat 0; rw [f3, f2], fun hn => ⟨f2.symm, by rw [f7] at hn; show (!nt) = false; rw [hn]; rfl⟩⟩)
    rfl (by rw [en]; exact f2.symm) (by show qput (shRoom s (i : Int)).room (quB (shRoom s (i : Int)) (i : Int)) _ = quB (shRoom s (i : Int)) (i : Int) ++ _; unfold qput; rw [if_pos hp0]) ok' qin'
   refine VI.of (n := s.L.ev.length) ln hput p2 (fun r hr => p3 r (by rw [hL]; exact hr)) (fun p hp => ?_)
   obtain ⟨j, g1, g2, g3⟩ := p4 p hp
   exact ⟨j, g1, by rw [hL] at g2; exact g2, g3⟩
theorem VI.sync {s : Shm} (h : VI s) {i : Nat} (hi : i < s.n) (fr : List Int) (he0 : syE s (i : Int) fr = 0) : VI (shSync s (i : Int) fr).2 := by
 have hk := h.vb.ok
 obtain ⟨_, h2, h3⟩ := syE_0 he0
 have okA := hk.act ⟨4, i, 0, 0, 0, 0, false, false, 0, 0, fr⟩
 have e2 : (shAct s ⟨4, i, 0, 0, 0, 0, false, false, 0, 0, fr⟩) = shSync s (i : Int) fr := rfl
 rw [e2] at okA
 unfold shSync at okA ⊢
 rw [if_neg (by omega)] at okA ⊢
 obtain ⟨P, hP⟩ : ∃ P, P = syP s fr := ⟨_, rfl⟩
 have e1 : shPairs (shPush (shDrain s (i : Int)) (syEv (i : Int))) (syP s fr) = shPsh (shDrain s (i : Int)) (syEv (i : Int)) P := by rw [hP]; rfl
 simp only [] at okA ⊢
 rw [e1] at okA ⊢
 have hd := h.drain hi
 have hmem : ∀ p ∈ P, ∃ q : Nat, p = ((q : Int), (s.L.ev.length : Int)) ∧ q < s.L.ev.length ∧ drnB (evn s.L.ev q) = true := fun p hp => by
  rw [hP] at hp
  unfold syP syL at hp
  rw [List.mem_map] at hp
  obtain ⟨q, hq, rfl⟩ := hp
  rw [List.mem_filter, List.mem_range, Bool.and_eq_true] at hq
  exact ⟨q, rfl, hq.1, hq.2.2⟩
 have hPT : PTo s.L.ev.length P := fun p hp => by obtain ⟨q, rfl, _⟩ := hmem p hp; rfl
 have hq : quB (shDrain s (i : Int)) (i : Int) = [] := drain_q hk hi
 obtain ⟨p1, p2, p3, p4⟩ := hd.psh (s := shDrain s (i : Int)) (e := syEv (i : Int)) (P := P) h2 hPT hi rfl (fun u hu hs => by
  rcases syn_new (s := shDrain s (i : Int)) hd.vb.ok hu hs with h4 | h4
  · unfold drnB; rw [h4]; simp
  · obtain ⟨q, hq1, hq2, hq3⟩ := hmem _ h4
    have : u = q := by have h9 := congrArg Prod.fst hq1; simp at h9; omega
    subst this
    exact hq3) (fun _ => hq) (fun q j hh => by simp [wrsB, syEv] at hh) (by simp [evFields, syEv]) (.inl rfl)
  ⟨by rw [hP]; unfold syP; rw [List.length_map]; exact h3, fun p hp => by
   obtain ⟨q, rfl, hq2, _⟩ := hmem p hp
   unfold prOk
   rw [decide_eq_true_eq]
   show 0 ≤ (q : Int) ∧ (q : Int) < (s.L.ev.length : Int) ∧ (s.L.ev.length : Int) < ((s.L.ev.length + 1 : Nat) : Int)
   omega⟩ (.inr rfl) okA
 exact VI.of (n := s.L.ev.length) (pushL_len (L := s.L)) (p1.bump (pushL_len (L := s.L)) (by show wrsB (evn (pushL s.L (syEv (i : Int)) P).ev s.L.ev.length) = false; rw [pushL_at]; rfl)) p2 p3 p4
theorem VI.act {s : Shm} (h : VI s) (o : Op20) : VI (shAct s o).2 := by
 have hk := h.vb.ok
 unfold shAct
 split
 · unfold shLoad
   split
   · exact h
   · rename_i hh
     obtain ⟨h1, h2, h3⟩ := shE_0 (by omega : shE s o.ag o.blk o.at_ o.size 1 = 0)
     obtain ⟨i, hi, hin⟩ := h1.ag
     have hs : VI (shSeq s o.ag o.seq) ∧ Asked (shSeq s o.ag o.seq) o.ag o.blk o.at_ o.size := by
      refine ⟨?_, (hk.seq_ h1).2⟩
      unfold shSeq
      split
      · rw [hi]; exact h.drain hin
      · exact h
     refine hs.1.load hs.2 (by rw [shSeq_L]; exact h3) _ _ (fun e => ?_)
     rw [e, hi]
     exact drain_q hk hin
 split
 · unfold shStore
   split
   · exact h
   · rename_i hh
     obtain ⟨h1, h2, h3⟩ := shE_0 (by omega : shE s o.ag o.blk o.at_ o.size 1 = 0)
     exact h.st h1 h3 _ _ _
 split
 · unfold shChange
   split
   · exact h
   · rename_i hh
     obtain ⟨h1, h2, h3⟩ := shE_0 (by omega : shE s o.ag o.blk o.at_ o.size o.op = 0)
     have hA := h1.drain o.ag
     obtain ⟨i, hi, hin⟩ := h1.ag
     have hd : VI (shDrain s o.ag) := by rw [hi]; exact h.drain hin
     exact hd.whole hA h3 (by rw [hi]; exact drain_q hk hin) (changeK (kindC o.size) o.op (shOld s o.ag o.blk o.at_ o.size) o.word).1 true
 split
 · unfold shSwap
   split
   · exact h
   · rename_i hh
     obtain ⟨h1, h2, h3⟩ := shE_0 (by omega : shE s o.ag o.blk o.at_ o.size 1 = 0)
     have hA := h1.drain o.ag
     obtain ⟨i, hi, hin⟩ := h1.ag
     have hd : VI (shDrain s o.ag) := by rw [hi]; exact h.drain hin
     exact hd.whole hA h3 (by rw [hi]; exact drain_q hk hin) o.word (breadB (shDrain s o.ag).M o.blk o.at_ o.size == bytesN o.size.toNat o.want)
 split
 · by_cases he : syE s o.ag o.fr = 0
   · obtain ⟨⟨i, hi, hin⟩, _, _⟩ := syE_0 he
     rw [hi] at he ⊢
     exact h.sync hin o.fr he
   · unfold shSync; rw [if_pos he]; exact h
 split
 · unfold shFl
   split
   · rename_i hh
     rw [Bool.and_eq_true] at hh
     obtain ⟨i, hi, hin⟩ := agB_iff.1 hh.1
     rw [hi]; exact h.flush hin
   · exact h
 split
 · unfold shTr
   split
   · rename_i hh
     rw [Bool.and_eq_true] at hh
     obtain ⟨i, hi, hin⟩ := agB_iff.1 hh.1
     rw [hi]; exact h.tearS hin
   · exact h
 split
 · exact h.make _
 · exact h
theorem VI.run {s : Shm} (h : VI s) (l : List Op20) : VI (shRun s l) := by
 induction l generalizing s with
 | nil => exact h
 | cons o l ih => exact ih (h.act o)
theorem vi_new {n room : Nat} (h : 1 ≤ n ∧ n ≤ 64) (hr : room ≤ 64) : VI (shNew n room) := by
 have hq : ∀ (a : Nat) (e : Ent), e ∈ quB (shNew n room) (a : Int) → False := fun a e he => by rw [new_quB] at he; cases he
 have hmb : ∀ (k i : Nat) x, mb (shNew n room).M k i = some x → False := fun k i x hx => by simp [mb, shNew] at hx
 exact ⟨⟨ok_new h hr, fun i hi e he => (hq i e he).elim, Nat.le_refl _, fun a ha e he => (hq a e he).elim, fun a ha e he => (hq a e he).elim, fun a ha => by rw [new_quB]; exact List.Pairwise.nil, fun a ha e he => (hq a e he).elim, fun a ha e he => (hq a e he).elim, fun a ha e he => (hq a e he).elim, fun k i b y hm => (hmb k i _ hm).elim, fun k i b y hm => (hmb k i _ hm).elim, fun k i b y hm => (hmb k i _ hm).elim, fun k i j b y b' y' hm => (hmb k i _ hm).elim, fun v k i hw => absurd hw.1 (Nat.not_lt_zero _)⟩,
  by rfl, fun r hr => absurd hr (Nat.not_lt_zero _), fun p hp => by cases hp⟩
theorem vi_two {n room : Nat} (h : 1 ≤ n ∧ n ≤ 64) (hr : room ≤ 64) : VI (shTwo n room) := ((vi_new h hr).make 16).make 8
theorem VI.valid {s : Shm} (h : VI s) : valB s.L (natL s.L) = true := by
 have hm := h.may
 have fj : ∀ {r i : Nat}, r < s.L.ev.length → i < (evn s.L.ev r).fr.length → frn s.L r i = -1 ∨ ∃ a : Nat, frn s.L r i = (a : Int) ∧ a < r := fun hr hi => frn_may hm hr hi
 have hcoh : cohI s.L = -1 := by
  unfold cohI
  rw [if_pos hm]
  refine fstN_none fun r hr => ?_
  unfold cohB
  rw [anyB_none]
  intro i hi
  unfold cohP
  rw [Bool.or_eq_false_iff]
  refine ⟨?_, ?_⟩
  · rcases fj hr hi with e | ⟨a, e, ha⟩
    · rw [e]; unfold hasB; simp
    · rw [e, hasB_nat hr (by omega)]
      cases hb : hbB s.L r a with
      | false => rfl
      | true => have := hbB_lt hb; omega
  · unfold hidB
    rw [anyB_none]
    intro v hv
    cases hp : hidP s.L r (frn s.L r i) ((evn s.L.ev r).at_ + i) v with
    | false => rfl
    | true =>
     exfalso
     unfold hidP at hp
     simp only [Bool.and_eq_true, Bool.or_eq_true, decide_eq_true_eq] at hp
     obtain ⟨⟨⟨h1, h2⟩, h3⟩, h4⟩ := hp
     obtain ⟨g1, g2⟩ := (h.rd r hr).coh i hi v ⟨hv, h1, h2⟩ h3
     rcases h4 with h4 | h4
     · omega
     · rcases fj hr hi with e | ⟨a, e, ha⟩
       · omega
       · rw [e, hasB_nat (by omega) hv] at h4
         rw [e, Int.toNat_natCast, h4] at g2
         cases g2
 have htear : tearI s.L = -1 := by
  unfold tearI
  rw [if_pos hm]
  refine fstN_none fun r hr => ?_
  unfold tearB
  rw [anyB_none]
  intro j hj
  unfold tearP
  rw [anyB_none]
  intro i hi
  cases hp : (qP s.L r i && qP s.L r j && decide (frn s.L r j ≠ frn s.L r i)) with
  | false => rfl
  | true =>
   exfalso
   simp only [Bool.and_eq_true, decide_eq_true_eq] at hp
   obtain ⟨⟨h1, h2⟩, h3⟩ := hp
   unfold qP at h1 h2
   simp only [Bool.and_eq_true, decide_eq_true_eq] at h1 h2
   exact h3 ((h.rd r hr).tear h1.1.1.1 j i hj (by omega) h2.1.1.2 h1.1.1.2 h2.1.2 h1.1.2 h2.2 h1.2)
 have hord := nat_ordB hm
 have hato : atoI s.L (natL s.L) = -1 := by
  unfold atoI
  rw [if_pos hord]
  refine fstN_none fun r hr => ?_
  unfold atoB
  rw [anyB_none]
  intro i hi
  cases hp : atoQ s.L (natL s.L) r i with
  | false => rfl
  | true =>
   exfalso
   unfold atoQ at hp
   rw [Bool.and_eq_true, decide_eq_true_eq, anyB_iff] at hp
   obtain ⟨h0, v, hv, h1⟩ := hp
   rcases fj hr hi with e | ⟨w, e, hwr⟩
   · omega
   · rw [e, Int.toNat_natCast] at h1
     unfold atoP at h1
     simp only [Bool.and_eq_true, decide_eq_true_eq] at h1
     obtain ⟨⟨⟨⟨⟨⟨h1, h2⟩, h3⟩, h4⟩, h5⟩, h6⟩, h7⟩ := h1
     rw [nat_posI hm (by omega), nat_posI hm hv] at h5
     rw [nat_posI hm hv, nat_posI hm hr] at h6
     have hvr : v < r := by omega
     have hwv : w < v := by omega
     -- what the read's source covers
     have hread := evOk1_reads ((mayL_iff.1 hm).2.1 r hr) i hi
     have hcv : evCov (evn s.L.ev w) (evn s.L.ev r).blk ((evn s.L.ev r).at_ + i) = true := by
      unfold evRead1 at hread
      have e' : (evn s.L.ev r).fr.getD i 0 = (w : Int) := e
      simp only [e'] at hread
      rw [if_neg (by omega), if_neg (by omega), Int.toNat_natCast] at hread
      simp only [Bool.and_eq_true] at hread
      exact hread.1.2
     have hcv' := evCov_iff.1 hcv
     have hsz := evFields_sizes (evOk1_fields ((mayL_iff.1 hm).2.1 r hr))
     have hrd : rdsB (evn s.L.ev r) = true := by
      cases hx : rdsB (evn s.L.ev r) with
      | true => rfl
      | false => rw [hsz.2.2.2.2.2.2.2.2.2.2.2.1 hx] at hi; exact absurd hi (Nat.not_lt_zero _)
     have hfl := hsz.2.2.2.2.2.2.2.2.2.2.1 hrd
     have wcR : evEq (evn s.L.ev v) (evn s.L.ev r) = true → WC s.L.ev v (evn s.L.ev r).blk ((evn s.L.ev r).at_ + i) := fun hq => by
      have h9 := evq_iff.1 hq
      exact ⟨hv, h1, evCov_iff.2 ⟨h9.1, by omega, by omega, by omega⟩⟩
     have R := h.rd r hr
     unfold pastB at h7
     split at h7
     · rename_i c
       rw [Bool.and_eq_true] at c
       have hW := wcR c.2
       have hs := c.1
       unfold synB at hs
       rw [Bool.or_eq_true] at hs
       rcases hs with hs | hs
       · unfold synE at hs
         simp only [Bool.and_eq_true] at hs
         have := R.at1 i hi (by omega) v hvr hW h2 (by omega)
         rw [e, Int.toNat_natCast, hs.1.1.2] at this
         cases this
       · rw [List.contains_iff_mem] at hs
         obtain ⟨j, g1, g2, g3⟩ := h.pr _ hs
         have : r = j := by simp at g1; omega
         subst this
         unfold rdsB at hrd
         rw [g3] at hrd
         simp at hrd
     · split at h7
       · cases h7
       · split at h7
         · rename_i c
           simp only [Bool.and_eq_true] at c
           have h9 := evq_iff.1 c.2
           have hW : WC s.L.ev v (evn s.L.ev r).blk ((evn s.L.ev r).at_ + i) := ⟨hv, h1, evCov_iff.2 ⟨h9.2.1, by omega, by omega, by omega⟩⟩
           have := R.at1 i hi (by omega) v hvr hW h2 (by omega)
           rw [e, Int.toNat_natCast, c.1.2] at this
           cases this
         · simp only [Bool.and_eq_true] at h7
           have hW := wcR h7.2
           obtain ⟨_, g2⟩ := R.sq h7.1.2 i hi v hvr hW h2
           rw [e, Int.toNat_natCast, h7.1.1] at g2
           cases g2
 unfold valB
 rw [hm, hcoh, htear, hord, hato]
 rfl
theorem valid_law {n room : Nat} (h : 1 ≤ n ∧ n ≤ 64) (hr : room ≤ 64) (l : List Op20) : mayL (shRun (shTwo n room) l).L = true ∧ valB (shRun (shTwo n room) l).L (natL (shRun (shTwo n room) l).L) = true := ⟨((vi_two h hr).run l).may, ((vi_two h hr).run l).valid⟩
end Go.Ren
