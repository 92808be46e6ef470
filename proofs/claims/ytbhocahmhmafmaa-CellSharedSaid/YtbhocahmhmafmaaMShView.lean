/-
  What an agent sees: the blocks as if its buffer were drained. No condition, no program. What the shared memory's calls refuse, and what they log. No condition, no program. What drains, and what every agent's Sync leaves. No condition, no program. An agent that is alone reads back what it stored. No condition, no program. Of whatever a shared memory logs each clean cell replays. No condition, no program.
-/
import Derived.Test.YtbhocahmhmafmaaMElemAt
namespace Go.Ren
set_option linter.unusedVariables false
/-- Blocks that have grown in number alone. -/
structure SameSz (M M' : List Blk) : Prop where
  len : M.length ≤ M'.length
  sz : ∀ k, k < M.length → (blk M' k).b.length = (blk M k).b.length
theorem SameSz.refl (M : List Blk) : SameSz M M := ⟨Nat.le_refl _, fun _ _ => rfl⟩
theorem SameSz.trans {A B C : List Blk} (h : SameSz A B) (g : SameSz B C) : SameSz A C := ⟨Nat.le_trans h.len g.len, fun k hk => (g.sz k (Nat.lt_of_lt_of_le hk h.len)).trans (h.sz k hk)⟩
theorem sz_write (M : List Blk) (K A : Int) (x : List UInt8) (y : Int) : SameSz M (bwrite M K A x y) := ⟨by rw [(blk_len_write 0).2]; exact Nat.le_refl _, fun k _ => (blk_len_write k).1⟩
theorem sz_flush (E : List Ent) (M : List Blk) : SameSz M (qflushM E M) := by cases E with | nil => exact SameSz.refl M | cons e E => exact sz_write _ _ _ _ _
theorem sz_tear (E : List Ent) (M : List Blk) : SameSz M (qtearM E M) := by
  cases E with
  | nil => exact SameSz.refl M
  | cons e E => simp only [qtearM]; split; exact sz_write _ _ _ _ _; exact SameSz.refl M
theorem sz_drain (E : List Ent) (M : List Blk) : SameSz M (qdrainM E M) := by
  induction E generalizing M with
  | nil => exact SameSz.refl M
  | cons e E ih => rw [qdrainM_cons]; exact (sz_flush (e :: E) M).trans (ih _)
theorem sz_make (M : List Blk) (size : Int) : SameSz M (bmake M size) := by
  unfold bmake
  split
  · exact ⟨by simp, fun k hk => by rw [blk_snoc, if_neg (by omega)]⟩
  · exact SameSz.refl M
theorem inE_mono {M M' : List Blk} (h : SameSz M M') {e : Ent} (he : inE M e) : inE M' e := by
  unfold inE at he ⊢
  obtain ⟨c1, c2, c3, c4, c5, c6⟩ := bcheck_0 he
  obtain ⟨k, hk⟩ : ∃ k : Nat, e.blk = k := ⟨e.blk.toNat, by omega⟩
  rw [hk] at he ⊢
  rw [bcheck_nat] at he ⊢
  have h1 := h.len
  have h2 := h.sz k he.1
  omega
theorem bcheck_mono {M M' : List Blk} (h : SameSz M M') {k a n : Int} (hc : bcheck M k a n = 0) : bcheck M' k a n = 0 := by
  obtain ⟨c1, c2, c3, c4, c5, c6⟩ := bcheck_0 hc
  obtain ⟨k, rfl⟩ : ∃ j : Nat, k = j := ⟨k.toNat, by omega⟩
  rw [bcheck_nat] at hc ⊢
  have h1 := h.len
  have h2 := h.sz k hc.1
  omega
/-- All that is buffered lies within its block. -/
def QIn (s : Shm) : Prop := ∀ i : Nat, i < s.n → ∀ e ∈ quB s (i : Int), inE s.M e
theorem QIn.setQ {s : Shm} (hk : ShOk s) (h : QIn s) {i : Nat} (hi : i < s.n) {M : List Blk} {E : List Ent} (hM : SameSz s.M M) (hE : ∀ e ∈ E, inE M e) : QIn ⟨s.n, s.room, M, s.Q.set i E, s.L⟩ := by
  intro j hj e he
  rw [quB_set (by rw [hk.ql]; exact hi)] at he
  split at he
  · exact hE e he
  · exact inE_mono hM (h j hj e he)
theorem QIn.setM {s : Shm} (h : QIn s) {M : List Blk} (hM : SameSz s.M M) : QIn ⟨s.n, s.room, M, s.Q, s.L⟩ := fun j hj e he => inE_mono hM (h j hj e he)
theorem QIn.drain {s : Shm} (hk : ShOk s) (h : QIn s) {i : Nat} (hi : i < s.n) : QIn (shDrain s (i : Int)) := h.setQ hk hi (sz_drain _ _) (fun e he => by cases he)
theorem QIn.flush {s : Shm} (hk : ShOk s) (h : QIn s) {i : Nat} (hi : i < s.n) : QIn (shFlush s (i : Int)) := h.setQ hk hi (sz_flush _ _) (fun e he => inE_mono (sz_flush _ _) (h i hi e (List.mem_of_mem_tail he)))
theorem tear_in {M : List Blk} {e : Ent} (h : inE M e) : inE M (tearEnt e) := by
  unfold inE at h ⊢
  obtain ⟨c1, c2, c3, c4, c5, c6⟩ := bcheck_0 h
  obtain ⟨k, hk⟩ : ∃ k : Nat, e.blk = k := ⟨e.blk.toNat, by omega⟩
  rw [hk] at h
  have hb : (tearEnt e).blk = k := hk
  have ha : (tearEnt e).at_ = e.at_ + (e.b.length / 2 : Nat) := rfl
  have hl : (tearEnt e).b.length = e.b.length - e.b.length / 2 := by simp [tearEnt]
  rw [hb, ha, hl]
  rw [bcheck_nat] at h ⊢
  omega
theorem QIn.tear {s : Shm} (hk : ShOk s) (h : QIn s) {i : Nat} (hi : i < s.n) : QIn (shTear s (i : Int)) := by
  refine h.setQ hk hi (sz_tear _ _) (fun e he => inE_mono (sz_tear _ _) ?_)
  cases hE : quB s (i : Int) with
  | nil => rw [hE] at he; cases he
  | cons x l =>
    rw [hE] at he
    simp only [qtear] at he
    have hx := h i hi
    rw [hE] at hx
    split at he
    · rcases List.mem_cons.1 he with rfl | he
      · exact tear_in (hx x (by simp))
      · exact hx e (by simp [he])
    · exact hx e he
theorem QIn.put {s : Shm} (hk : ShOk s) (h : QIn s) {i : Nat} (hi : i < s.n) {e : Ent} (he : inE s.M e) : QIn (shPut s (i : Int) e) := by
  refine h.setQ hk hi (SameSz.refl _) (fun x hx => ?_)
  unfold qput at hx
  split at hx
  · rcases List.mem_append.1 hx with hx | hx
    · exact h i hi x hx
    · rw [List.mem_singleton.1 hx]; exact he
  · exact h i hi x hx
theorem QIn.room_ {s : Shm} (hk : ShOk s) (h : QIn s) {i : Nat} (hi : i < s.n) : QIn (shRoom s (i : Int)) := by unfold shRoom; split; exact h.flush hk hi; exact h
theorem room_facts (s : Shm) (a : Int) : (shRoom s a).n = s.n ∧ (shRoom s a).room = s.room ∧ (shRoom s a).L = s.L ∧ SameSz s.M (shRoom s a).M := by unfold shRoom; split; exact ⟨rfl, rfl, rfl, sz_flush _ _⟩; exact ⟨rfl, rfl, rfl, SameSz.refl _⟩
theorem asked_ent {s : Shm} {ag k a size : Int} (h : Asked s ag k a size) (w : Nat) (y : Int) (t : Bool) : inE s.M ⟨k, a, bytesN size.toNat w, y, t⟩ := by
  unfold inE
  show bcheck s.M k a (bytesN size.toNat w).length = 0
  rw [bytesN_len]
  have := h.sz
  rw [show ((size.toNat : Nat) : Int) = size by omega]; exact h.chk
theorem QIn.st {s : Shm} (hk : ShOk s) (h : QIn s) {ag k a size : Int} (hA : Asked s ag k a size) (hl : s.L.ev.length < 1000) (w : Nat) (seq nt : Bool) : QIn (shSt s ag k a size w seq nt) := by
  have h0 := hk.st0 (w := w) (seq := seq) (nt := nt) hA hl
  have q0 : QIn (shPush s (stEv ag k a size w seq nt)) := h
  have he := asked_ent hA w s.L.ev.length (!nt)
  obtain ⟨i, rfl, hi⟩ := hA.ag
  unfold shSt
  split
  · exact (q0.drain h0 (i := i) hi).setM (sz_write _ _ _ _ _)
  · have hf := room_facts (shPush s (stEv (i : Int) k a size w seq nt)) (i : Int)
    exact (q0.room_ h0 (i := i) hi).put (h0.room_ (i := i) hi) (by rw [hf.1]; exact hi) (inE_mono hf.2.2.2 he)
theorem QIn.whole {s : Shm} (h : QIn s) (ag k a size : Int) (w : Nat) (put : Bool) : QIn (shWhole s ag k a size w put) := by
  unfold shWhole
  split
  · exact QIn.setM (s := shPush s (chEv s ag k a size w)) h (sz_write _ _ _ _ _)
  · exact h
theorem QIn.seq_ {s : Shm} (hk : ShOk s) (h : QIn s) {ag k a size : Int} (hA : Asked s ag k a size) (seq : Bool) : QIn (shSeq s ag seq) := by
  obtain ⟨i, rfl, hi⟩ := hA.ag
  unfold shSeq
  split
  · exact h.drain hk hi
  · exact h
theorem QIn.act {s : Shm} (hk : ShOk s) (h : QIn s) (o : Op20) : QIn (shAct s o).2 := by
  unfold shAct
  split
  · unfold shLoad
    split
    · exact h
    · rename_i hh
      obtain ⟨h1, h2, h3⟩ := shE_0 (by omega : shE s o.ag o.blk o.at_ o.size 1 = 0)
      exact h.seq_ hk h1 o.seq
  split
  · unfold shStore
    split
    · exact h
    · rename_i hh
      obtain ⟨h1, h2, h3⟩ := shE_0 (by omega : shE s o.ag o.blk o.at_ o.size 1 = 0)
      exact h.st hk h1 h3 _ _ _
  split
  · unfold shChange
    split
    · exact h
    · rename_i hh
      obtain ⟨h1, h2, h3⟩ := shE_0 (by omega : shE s o.ag o.blk o.at_ o.size o.op = 0)
      exact (h.seq_ hk h1 true).whole _ _ _ _ _ _
  split
  · unfold shSwap
    split
    · exact h
    · rename_i hh
      obtain ⟨h1, h2, h3⟩ := shE_0 (by omega : shE s o.ag o.blk o.at_ o.size 1 = 0)
      exact (h.seq_ hk h1 true).whole _ _ _ _ _ _
  split
  · unfold shSync
    split
    · exact h
    · rename_i hh
      obtain ⟨⟨i, hi, hin⟩, h2, h3⟩ := syE_0 (by omega : syE s o.ag o.fr = 0)
      rw [hi]; exact h.drain hk hin
  split
  · unfold shFl
    split
    · rename_i hh
      rw [Bool.and_eq_true] at hh
      obtain ⟨i, hi, hin⟩ := agB_iff.1 hh.1
      rw [hi]; exact h.flush hk hin
    · exact h
  split
  · unfold shTr
    split
    · rename_i hh
      rw [Bool.and_eq_true] at hh
      obtain ⟨i, hi, hin⟩ := agB_iff.1 hh.1
      rw [hi]; exact h.tear hk hin
    · exact h
  split
  · exact h.setM (sz_make _ _)
  · exact h
theorem QIn.run {s : Shm} (hk : ShOk s) (h : QIn s) (l : List Op20) : QIn (shRun s l) := by
  induction l generalizing s with
  | nil => exact h
  | cons o l ih => exact ih (hk.act o) (h.act hk o)
theorem QIn.two (n room : Nat) : QIn (shTwo n room) := by
  intro i hi e he
  have : quB (shTwo n room) (i : Int) = quB (shNew n room) (i : Int) := rfl
  rw [this, new_quB] at he
  cases he
/-! What an agent sees. -/
def view (s : Shm) (ag : Int) : List Blk := qdrainM (quB s ag) s.M
theorem ld_view {s : Shm} (hk : ShOk s) (h : QIn s) {ag k a size : Int} (hA : Asked s ag k a size) : ldB s ag k a size = breadB (view s ag) k a size ∧ ldY s ag k a size = breadY (view s ag) k a size := by
  obtain ⟨i, rfl, hi⟩ := hA.ag
  obtain ⟨c1, c2, c3, c4, c5, c6⟩ := bcheck_0 hA.chk
  obtain ⟨k, rfl⟩ : ∃ j : Nat, k = j := ⟨k.toNat, by omega⟩
  exact over_read hk.bk (hk.qe i hi) (h i hi) hA.chk
theorem view_drain (s : Shm) (hk : ShOk s) {i : Nat} (hi : i < s.n) : view (shDrain s (i : Int)) (i : Int) = view s (i : Int) := by
  unfold view shDrain
  rw [Int.toNat_natCast, quB_set (by rw [hk.ql]; exact hi), if_pos rfl]; rfl
theorem view_flush (s : Shm) (hk : ShOk s) {i : Nat} (hi : i < s.n) : view (shFlush s (i : Int)) (i : Int) = view s (i : Int) := by
  unfold view shFlush
  rw [Int.toNat_natCast, quB_set (by rw [hk.ql]; exact hi), if_pos rfl]
  cases quB s (i : Int) with
  | nil => rfl
  | cons e E => rfl
theorem tear_two {M : List Blk} (h : BOk M) {e : Ent} (he : inE M e) (ho : EOk e) : bwrite (bwrite M e.blk e.at_ (e.b.take (e.b.length / 2)) e.by_) (tearEnt e).blk (tearEnt e).at_ (tearEnt e).b (tearEnt e).by_ = bwrite M e.blk e.at_ e.b e.by_ := by
  have hy : I64 e.by_ := by have := ho.by_; unfold I64; omega
  have h1 := bok_write h e.blk e.at_ (e.b.take (e.b.length / 2)) hy
  refine blks_ext (bok_write h1 _ _ _ hy) (bok_write h _ _ _ hy) (by rw [(blk_len_write 0).2, (blk_len_write 0).2, (blk_len_write 0).2]) fun k i => ?_
  have he2 : inE (bwrite M e.blk e.at_ (e.b.take (e.b.length / 2)) e.by_) (tearEnt e) := inE_write (tear_in he) _ _ _ _
  rw [mb_ent h1 he2, mb_ent h he]
  rw [mb_write h]
  unfold inE at he
  obtain ⟨c1, c2, c3, c4, c5, c6⟩ := bcheck_0 he
  have hc1 : bcheck M e.blk e.at_ (e.b.take (e.b.length / 2)).length = 0 := by
    obtain ⟨K, hK⟩ : ∃ K : Nat, e.blk = K := ⟨e.blk.toNat, by omega⟩
    rw [hK] at he ⊢
    rw [bcheck_nat] at he ⊢
    have : (e.b.take (e.b.length / 2)).length = e.b.length / 2 := by simp; omega
    omega
  have hlt : (e.b.take (e.b.length / 2)).length = e.b.length / 2 := by simp; omega
  have hld : (tearEnt e).b.length = e.b.length - e.b.length / 2 := by simp [tearEnt]
  by_cases hc : covE e k i = true
  · rw [if_pos hc]
    unfold covE at hc
    rw [decide_eq_true_eq] at hc
    by_cases h2 : (i : Int) < e.at_ + (e.b.length / 2 : Nat)
    · have n2 : covE (tearEnt e) k i = false := by
        unfold covE
        rw [decide_eq_false_iff_not]
        have : (tearEnt e).at_ = e.at_ + (e.b.length / 2 : Nat) := rfl
        omega
      rw [n2, if_neg (by simp), if_pos ⟨hc1, hc.1, hc.2.1, by rw [hlt]; exact h2⟩]
      unfold valE
      congr 2
      rw [List.getD_eq_getElem?_getD, List.getD_eq_getElem?_getD, List.getElem?_take, if_pos (by omega)]
    · have n2 : covE (tearEnt e) k i = true := by
        unfold covE
        rw [decide_eq_true_eq]
        have h3 : (tearEnt e).at_ = e.at_ + (e.b.length / 2 : Nat) := rfl
        have h4 : (tearEnt e).blk = e.blk := rfl
        rw [h4, h3, hld]
        refine ⟨hc.1, by omega, ?_⟩
        have := hc.2.2
        omega
      rw [if_pos n2]
      unfold valE
      have h3 : (tearEnt e).at_ = e.at_ + (e.b.length / 2 : Nat) := rfl
      have h5 : (tearEnt e).b = e.b.drop (e.b.length / 2) := rfl
      rw [h3, h5, List.getD_eq_getElem?_getD, List.getD_eq_getElem?_getD, List.getElem?_drop]
      have h6 : (tearEnt e).by_ = e.by_ := rfl
      rw [h6]
      congr 3
      congr 1
      omega
  · have n2 : ¬ covE (tearEnt e) k i = true := by
      unfold covE at hc ⊢
      rw [decide_eq_true_eq] at hc ⊢
      have h3 : (tearEnt e).at_ = e.at_ + (e.b.length / 2 : Nat) := rfl
      have h4 : (tearEnt e).blk = e.blk := rfl
      rw [h4, h3, hld]
      intro h7
      exact hc ⟨h7.1, by omega, by omega⟩
    rw [if_neg hc, if_neg n2, if_neg ?_]
    unfold covE at hc
    rw [decide_eq_true_eq] at hc
    rintro ⟨_, g1, g2, g3⟩
    rw [hlt] at g3
    exact hc ⟨g1, g2, by omega⟩
theorem view_tear (s : Shm) (hk : ShOk s) (h : QIn s) {i : Nat} (hi : i < s.n) : view (shTear s (i : Int)) (i : Int) = view s (i : Int) := by
  unfold view shTear
  rw [Int.toNat_natCast, quB_set (by rw [hk.ql]; exact hi), if_pos rfl]
  have hE := hk.qe i hi
  have hI := h i hi
  cases hq : quB s (i : Int) with
  | nil => rfl
  | cons e E =>
    rw [hq] at hE hI
    simp only [qtear, qtearM]
    split
    · rw [qdrainM_cons, qdrainM_cons]
      congr 1
      exact tear_two hk.bk (hI e (by simp)) (hE e (by simp))
    · rfl
theorem qdrainM_snoc (E : List Ent) (e : Ent) (M : List Blk) : qdrainM (E ++ [e]) M = bwrite (qdrainM E M) e.blk e.at_ e.b e.by_ := by unfold qdrainM; rw [List.foldl_append]; rfl
theorem view_put (s : Shm) (hk : ShOk s) {i : Nat} (hi : i < s.n) {e : Ent} (he : qputE s.room (quB s (i : Int)) e = 0) : view (shPut s (i : Int) e) (i : Int) = bwrite (view s (i : Int)) e.blk e.at_ e.b e.by_ := by
  unfold view shPut
  rw [Int.toNat_natCast, quB_set (by rw [hk.ql]; exact hi), if_pos rfl]
  unfold qput
  rw [if_pos he, qdrainM_snoc]
theorem view_room (s : Shm) (hk : ShOk s) {i : Nat} (hi : i < s.n) : view (shRoom s (i : Int)) (i : Int) = view s (i : Int) := by unfold shRoom; split; exact view_flush s hk hi; rfl
theorem room_len {s : Shm} (hk : ShOk s) {i : Nat} (hi : i < s.n) (h0 : 0 < s.room) : (quB (shRoom s (i : Int)) (i : Int)).length < s.room := by
  unfold shRoom
  split
  · unfold shFlush
    rw [Int.toNat_natCast, quB_set (by rw [hk.ql]; exact hi), if_pos rfl]
    have := hk.qc i hi
    simp; omega
  · omega
/-- What is stored is put. -/
theorem put_ok {s : Shm} {ag k a size : Int} (hk : ShOk s) (hA : Asked s ag k a size) {E : List Ent} {room : Nat} (hE : E.length < room) (w n : Nat) (t : Bool) : qputE room E ⟨k, a, bytesN size.toNat w, (n : Int), t⟩ = 0 := by
  obtain ⟨r1, r2, r3, r4, r5, r6, r7⟩ := hA.rng hk
  have h4 := hA.sz
  unfold qputE
  simp only [bytesN_len]
  rw [if_neg (by omega), if_neg (by omega)]
/-- A store is seen by its agent, whether it is buffered or not. -/
theorem view_st {s : Shm} (hk : ShOk s) {ag k a size : Int} (hA : Asked s ag k a size) (hl : s.L.ev.length < 1000) (w : Nat) (seq nt : Bool) : view (shSt s ag k a size w seq nt) ag = bwrite (view s ag) k a (bytesN size.toNat w) s.L.ev.length := by
  have h0 := hk.st0 (w := w) (seq := seq) (nt := nt) hA hl
  have hA' := hA
  obtain ⟨i, rfl, hi⟩ := hA.ag
  unfold shSt
  split
  · unfold view shWrite shDrain
    rw [Int.toNat_natCast]
    show qdrainM (quB ⟨s.n, s.room, bwrite (qdrainM (quB (shPush s _) (i : Int)) s.M) k a _ _, s.Q.set i [], _⟩ (i : Int)) _ = _
    rw [quB_set (by rw [hk.ql]; exact hi), if_pos rfl]; rfl
  · rename_i hc
    have h1 : 0 < s.room := by rcases Nat.eq_zero_or_pos s.room with h | h; exact absurd (.inr h) hc; exact h
    have hf := room_facts (shPush s (stEv (i : Int) k a size w seq nt)) (i : Int)
    have hrl : (quB (shRoom (shPush s (stEv (i : Int) k a size w seq nt)) (i : Int)) (i : Int)).length < s.room := room_len (i := i) h0 hi h1
    rw [view_put _ (h0.room_ (i := i) hi) (by rw [hf.1]; exact hi) (by rw [hf.2.1]; exact put_ok hk hA' hrl w _ _), view_room _ h0 (i := i) hi]
    rfl
theorem bread_write {M : List Blk} (h : BOk M) {k a : Int} {x : List UInt8} {y : Int} (hy : I64 y) (hc : bcheck M k a x.length = 0) : breadB (bwrite M k a x y) k a x.length = x := by
  obtain ⟨c1, c2, c3, c4, c5, c6⟩ := bcheck_0 hc
  obtain ⟨k, rfl⟩ : ∃ j : Nat, k = j := ⟨k.toNat, by omega⟩
  have hc' : bcheck (bwrite M (k : Int) a x y) (k : Int) a x.length = 0 := (bcheck_write k a _).2 hc
  apply List.ext_getElem?
  intro j
  rw [(bread_get (bok_write h _ _ _ hy) hc' j).1, Int.toNat_natCast]
  by_cases hj : j < x.length
  · rw [if_pos hj, mb_write h, if_pos ⟨hc, rfl, by omega, by omega⟩]
    simp only [Option.map_some]
    rw [List.getD_eq_getElem?_getD, show (((a.toNat + j : Nat) : Int) - a).toNat = j by omega, List.getElem?_eq_getElem hj]; rfl
  · rw [if_neg hj, List.getElem?_eq_none (by omega)]
end Go.Ren
namespace Go.Ren
set_option linter.unusedVariables false
def isOp (k : Int) : Prop := 0 ≤ k ∧ k ≤ 4
theorem flush_L (s : Shm) (a : Int) : (shFl s a).2.L = s.L := by unfold shFl; split <;> rfl
theorem tear_L (s : Shm) (a : Int) : (shTr s a).2.L = s.L := by unfold shTr; split <;> rfl
/-- What is no access and no Sync logs nothing. -/
theorem act_quiet (s : Shm) (o : Op20) (h : o.kind < 0 ∨ 4 < o.kind) : (shAct s o).2.L = s.L := by
  unfold shAct
  rw [if_neg (by omega), if_neg (by omega), if_neg (by omega), if_neg (by omega), if_neg (by omega)]
  split
  · exact flush_L s o.ag
  split
  · exact tear_L s o.ag
  split <;> rfl
/-- What is refused changes nothing. -/
theorem act_err (s : Shm) (o : Op20) (h : 0 ≤ o.kind ∧ o.kind ≤ 4) (he : (shAct s o).1.2 ≠ 0) : (shAct s o).2 = s := by
  unfold shAct at he ⊢
  split at he
  · rename_i c; rw [if_pos c]; unfold shLoad at he ⊢; split at he
    · rename_i d; rw [if_pos d]
    · exact absurd rfl he
  rename_i c0; rw [if_neg c0]
  split at he
  · rename_i c; rw [if_pos c]; simp only [] at he ⊢; unfold shStore at he ⊢; split at he
    · rename_i d; rw [if_pos d]
    · exact absurd rfl he
  rename_i c1; rw [if_neg c1]
  split at he
  · rename_i c; rw [if_pos c]; unfold shChange at he ⊢; split at he
    · rename_i d; rw [if_pos d]
    · exact absurd rfl he
  rename_i c2; rw [if_neg c2]
  split at he
  · rename_i c; rw [if_pos c]; unfold shSwap at he ⊢; split at he
    · rename_i d; rw [if_pos d]
    · exact absurd rfl he
  rename_i c3; rw [if_neg c3]
  split at he
  · rename_i c; rw [if_pos c]; unfold shSync at he ⊢; split at he
    · rename_i d; rw [if_pos d]
    · exact absurd rfl he
  rename_i c4; omega
theorem st_L (s : Shm) (ag k a size : Int) (w : Nat) (seq nt : Bool) : (shSt s ag k a size w seq nt).L.ev = s.L.ev ++ [stEv ag k a size w seq nt] := by
  unfold shSt
  split
  · rfl
  · show (shRoom (shPush s (stEv ag k a size w seq nt)) ag).L.ev = _
    rw [(room_facts _ _).2.2.1]; rfl
theorem whole_L (s : Shm) (ag k a size : Int) (w : Nat) (put : Bool) : ∃ e, (shWhole s ag k a size w put).L.ev = s.L.ev ++ [e] ∧ e.ag = ag ∧ e.blk = k ∧ e.at_ = a ∧ e.size = size ∧ e.seq = true := by
  unfold shWhole
  split
  · exact ⟨_, rfl, rfl, rfl, rfl, rfl, rfl⟩
  · exact ⟨_, rfl, rfl, rfl, rfl, rfl, rfl⟩
/-- What is done logs one event. -/
theorem act_ok (s : Shm) (o : Op20) (h : 0 ≤ o.kind ∧ o.kind ≤ 4) (he : (shAct s o).1.2 = 0) :
    ∃ e, (shAct s o).2.L.ev = s.L.ev ++ [e] ∧ e.ag = o.ag ∧ (o.kind < 4 → e.blk = o.blk ∧ e.at_ = o.at_ ∧ e.size = o.size ∧ (1 < o.kind → e.seq = true)) := by
  unfold shAct at he ⊢
  split at he
  · rename_i c; rw [if_pos c]; unfold shLoad at he ⊢; split at he
    · rename_i d; exact absurd he d
    · rename_i d; rw [if_neg d]
      refine ⟨⟨o.ag, 1, o.seq, o.nt, o.blk, o.at_, o.size, ldB (shSeq s o.ag o.seq) o.ag o.blk o.at_ o.size, [], ldY (shSeq s o.ag o.seq) o.ag o.blk o.at_ o.size⟩, ?_, rfl, fun _ => ⟨rfl, rfl, rfl, fun hh => by omega⟩⟩
      show (shSeq s o.ag o.seq).L.ev ++ _ = _
      rw [shSeq_L]
  rename_i c0; rw [if_neg c0]
  split at he
  · rename_i c; rw [if_pos c]; simp only [] at he ⊢; unfold shStore at he ⊢; split at he
    · rename_i d; exact absurd he d
    · rename_i d; rw [if_neg d]
      exact ⟨stEv o.ag o.blk o.at_ o.size o.word o.seq o.nt, st_L _ _ _ _ _ _ _ _, rfl, fun _ => ⟨rfl, rfl, rfl, fun hh => by omega⟩⟩
  rename_i c1; rw [if_neg c1]
  split at he
  · rename_i c; rw [if_pos c]; unfold shChange at he ⊢; split at he
    · rename_i d; exact absurd he d
    · rename_i d; rw [if_neg d]
      obtain ⟨e, h1, h2, h3, h4, h5, h6⟩ := whole_L (shDrain s o.ag) o.ag o.blk o.at_ o.size (changeK (kindC o.size) o.op (shOld s o.ag o.blk o.at_ o.size) o.word).1 true
      exact ⟨e, h1, h2, fun _ => ⟨h3, h4, h5, fun _ => h6⟩⟩
  rename_i c2; rw [if_neg c2]
  split at he
  · rename_i c; rw [if_pos c]; unfold shSwap at he ⊢; split at he
    · rename_i d; exact absurd he d
    · rename_i d; rw [if_neg d]
      obtain ⟨e, h1, h2, h3, h4, h5, h6⟩ := whole_L (shDrain s o.ag) o.ag o.blk o.at_ o.size o.word (breadB (shDrain s o.ag).M o.blk o.at_ o.size == bytesN o.size.toNat o.want)
      exact ⟨e, h1, h2, fun _ => ⟨h3, h4, h5, fun _ => h6⟩⟩
  rename_i c3; rw [if_neg c3]
  split at he
  · rename_i c; rw [if_pos c]; unfold shSync at he ⊢; split at he
    · rename_i d; exact absurd he d
    · rename_i d; rw [if_neg d]
      exact ⟨syEv o.ag, rfl, rfl, fun hh => by omega⟩
  rename_i c4; omega
end Go.Ren
namespace Go.Ren
set_option linter.unusedVariables false
/-- Does an operation that was done drain its agent's buffer? -/
def drains (o : Op20) : Prop := o.kind = 2 ∨ o.kind = 3 ∨ o.kind = 4 ∨ ((o.kind = 0 ∨ o.kind = 1) ∧ o.seq = true)
theorem pend_of {s : Shm} {a : Int} (h : quB s a = []) : shPend s a = 0 := by unfold shPend; rw [h]; split <;> rfl
theorem drain_q {s : Shm} (hk : ShOk s) {i : Nat} (hi : i < s.n) : quB (shDrain s (i : Int)) (i : Int) = [] := by
  unfold shDrain
  rw [Int.toNat_natCast, quB_set (by rw [hk.ql]; exact hi), if_pos rfl]
theorem pend_le {s : Shm} (hk : ShOk s) (a : Int) : shPend s a ≤ s.room := by
  unfold shPend
  split
  · rename_i h
    obtain ⟨i, rfl, hi⟩ := agB_iff.1 h
    exact hk.qc i hi
  · exact Nat.zero_le _
theorem whole_q (s : Shm) (ag k a size : Int) (w : Nat) (put : Bool) (b : Int) : quB (shWhole s ag k a size w put) b = quB s b := by unfold shWhole; split <;> rfl
theorem act_drains {s : Shm} (hk : ShOk s) (o : Op20) (hd : drains o) (he : (shAct s o).1.2 = 0) : quB (shAct s o).2 o.ag = [] := by
  unfold drains at hd
  unfold shAct at he ⊢
  split at he
  · rename_i c; rw [if_pos c]; unfold shLoad at he ⊢; split at he
    · rename_i d; exact absurd he d
    · rename_i d; rw [if_neg d]
      obtain ⟨⟨⟨i, hi, hin⟩, _, _⟩, h2, h3⟩ := shE_0 (by omega : shE s o.ag o.blk o.at_ o.size 1 = 0)
      have hs : o.seq = true := by rcases hd with h | h | h | h; omega; omega; omega; exact h.2
      rw [hs, hi]
      exact drain_q hk hin
  rename_i c0; rw [if_neg c0]
  split at he
  · rename_i c; rw [if_pos c]; simp only [] at he ⊢; unfold shStore at he ⊢; split at he
    · rename_i d; exact absurd he d
    · rename_i d; rw [if_neg d]
      obtain ⟨h1, h2, h3⟩ := shE_0 (by omega : shE s o.ag o.blk o.at_ o.size 1 = 0)
      have hs : o.seq = true := by rcases hd with h | h | h | h; omega; omega; omega; exact h.2
      obtain ⟨i, hi, hin⟩ := h1.ag
      have h0 := hk.st0 (w := o.word) (seq := o.seq) (nt := o.nt) h1 h3
      simp only []
      unfold shSt
      rw [if_pos (.inl hs)]
      rw [hi] at h0 ⊢
      exact drain_q h0 hin
  rename_i c1; rw [if_neg c1]
  split at he
  · rename_i c; rw [if_pos c]; unfold shChange at he ⊢; split at he
    · rename_i d; exact absurd he d
    · rename_i d; rw [if_neg d]
      obtain ⟨⟨⟨i, hi, hin⟩, _, _⟩, h2, h3⟩ := shE_0 (by omega : shE s o.ag o.blk o.at_ o.size o.op = 0)
      show quB (shWhole _ _ _ _ _ _ _) _ = _
      rw [whole_q, hi]; exact drain_q hk hin
  rename_i c2; rw [if_neg c2]
  split at he
  · rename_i c; rw [if_pos c]; unfold shSwap at he ⊢; split at he
    · rename_i d; exact absurd he d
    · rename_i d; rw [if_neg d]
      obtain ⟨⟨⟨i, hi, hin⟩, _, _⟩, h2, h3⟩ := shE_0 (by omega : shE s o.ag o.blk o.at_ o.size 1 = 0)
      show quB (shWhole _ _ _ _ _ _ _) _ = _
      rw [whole_q, hi]; exact drain_q hk hin
  rename_i c3; rw [if_neg c3]
  split at he
  · rename_i c; rw [if_pos c]; unfold shSync at he ⊢; split at he
    · rename_i d; exact absurd he d
    · rename_i d; rw [if_neg d]
      obtain ⟨⟨i, hi, hin⟩, h2, h3⟩ := syE_0 (by omega : syE s o.ag o.fr = 0)
      rw [hi]; exact drain_q hk hin
  rename_i c4; omega
/-- So many agents have done a Sync of nothing. -/
def shSyncs (s : Shm) : Nat → Shm
  | 0 => s
  | k + 1 => (shSync (shSyncs s k) (k : Int) []).2
theorem syL_nil (s : Shm) : syL s [] = [] := by unfold syL; simp
theorem act_len (s : Shm) (o : Op20) : (shAct s o).2.L.ev.length ≤ s.L.ev.length + 1 ∧ s.L.ev.length ≤ (shAct s o).2.L.ev.length := by
  by_cases h : 0 ≤ o.kind ∧ o.kind ≤ 4
  · by_cases he : (shAct s o).1.2 = 0
    · obtain ⟨e, h1, _⟩ := act_ok s o h he
      rw [h1]; simp
    · rw [act_err s o h he]; omega
  · rw [act_quiet s o (by omega)]; omega
theorem run_len (s : Shm) (l : List Op20) : (shRun s l).L.ev.length ≤ s.L.ev.length + l.length := by
  induction l generalizing s with
  | nil => simp [shRun]
  | cons o l ih => have := ih (shAct s o).2; have h2 := (act_len s o).1; simp only [shRun, List.length_cons]; omega
theorem sync_facts (s : Shm) (ag : Int) (fr : List Int) : (shSync s ag fr).2.n = s.n ∧ (shSync s ag fr).2.room = s.room := by unfold shSync; split <;> exact ⟨rfl, rfl⟩
theorem act_nr (s : Shm) (o : Op20) : (shAct s o).2.n = s.n ∧ (shAct s o).2.room = s.room := by
  unfold shAct
  split
  · unfold shLoad; split; exact ⟨rfl, rfl⟩; unfold shSeq; show (shLd _ _ _ _ _ _ _).n = _ ∧ _; split <;> exact ⟨rfl, rfl⟩
  split
  · unfold shStore; split; exact ⟨rfl, rfl⟩
    unfold shSt; simp only []; split; exact ⟨rfl, rfl⟩
    have hf := room_facts (shPush s (stEv o.ag o.blk o.at_ o.size o.word o.seq o.nt)) o.ag
    exact ⟨hf.1, hf.2.1⟩
  split
  · unfold shChange; split; exact ⟨rfl, rfl⟩; show (shWhole _ _ _ _ _ _ _).n = _ ∧ _; unfold shWhole; split <;> exact ⟨rfl, rfl⟩
  split
  · unfold shSwap; split; exact ⟨rfl, rfl⟩; show (shWhole _ _ _ _ _ _ _).n = _ ∧ _; unfold shWhole; split <;> exact ⟨rfl, rfl⟩
  split
  · exact sync_facts s _ _
  split
  · unfold shFl; split <;> exact ⟨rfl, rfl⟩
  split
  · unfold shTr; split <;> exact ⟨rfl, rfl⟩
  split <;> exact ⟨rfl, rfl⟩
theorem run_nr (s : Shm) (l : List Op20) : (shRun s l).n = s.n ∧ (shRun s l).room = s.room := by
  induction l generalizing s with
  | nil => exact ⟨rfl, rfl⟩
  | cons o l ih => have := ih (shAct s o).2; have h2 := act_nr s o; exact ⟨this.1.trans h2.1, this.2.trans h2.2⟩
theorem sync_q {s : Shm} (hk : ShOk s) {i : Nat} (hi : i < s.n) (hl : s.L.ev.length < 1000) : quB (shSync s (i : Int) []).2 (i : Int) = [] ∧ (∀ j : Nat, quB s (j : Int) = [] → quB (shSync s (i : Int) []).2 (j : Int) = []) ∧ (shSync s (i : Int) []).2.L.ev.length = s.L.ev.length + 1 ∧ ShOk (shSync s (i : Int) []).2 := by
  have h0 : syE s (i : Int) [] = 0 := by
    unfold syE
    have h1 : agB s (i : Int) = true := agB_iff.2 ⟨i, rfl, hi⟩
    have := hk.pr
    rw [h1, if_neg (by simp), syL_nil, if_neg (by simp; omega)]
  have h2 := hk.act ⟨4, i, 0, 0, 0, 0, false, false, 0, 0, []⟩
  have e2 : (shAct s ⟨4, i, 0, 0, 0, 0, false, false, 0, 0, []⟩) = shSync s (i : Int) [] := rfl
  rw [e2] at h2
  refine ⟨?_, fun j hj => ?_, ?_, h2⟩
  · unfold shSync
    rw [if_neg (by omega)]
    exact drain_q hk hi
  · unfold shSync
    rw [if_neg (by omega)]
    show quB (shDrain s (i : Int)) (j : Int) = []
    unfold shDrain
    rw [Int.toNat_natCast, quB_set (by rw [hk.ql]; exact hi)]
    split
    · rfl
    · exact hj
  · unfold shSync
    rw [if_neg (by omega)]
    show (s.L.ev ++ [_]).length = _
    simp
theorem syncs_ok {s : Shm} (hk : ShOk s) (hl : s.L.ev.length + 64 < 1000) : ∀ k, k ≤ s.n → ShOk (shSyncs s k) ∧ (shSyncs s k).n = s.n ∧ (shSyncs s k).L.ev.length = s.L.ev.length + k ∧ ∀ j : Nat, j < k → quB (shSyncs s k) (j : Int) = []
  | 0, _ => ⟨hk, rfl, rfl, fun j hj => absurd hj (Nat.not_lt_zero _)⟩
  | k + 1, h => by
    obtain ⟨h1, h2, h3, h4⟩ := syncs_ok hk hl k (by omega)
    have hn := hk.n1
    obtain ⟨g1, g2, g3, g4⟩ := sync_q h1 (i := k) (by omega) (by omega)
    refine ⟨g4, (sync_facts _ _ _).1.trans h2, by show (shSync _ _ _).2.L.ev.length = _; omega, fun j hj => ?_⟩
    by_cases e : j = k
    · subst e; exact g1
    · exact g2 j (h4 j (by omega))
theorem fin_same {s : Shm} (hk : ShOk s) (h : ∀ j : Nat, j < s.n → quB s (j : Int) = []) : ∀ k, k ≤ s.n → (shFin s k).M = s.M ∧ ∀ j : Nat, j < s.n → quB (shFin s k) (j : Int) = []
  | 0, _ => ⟨rfl, h⟩
  | k + 1, hh => by
    obtain ⟨h1, h2⟩ := fin_same hk h k (by omega)
    have hq := h2 k (by omega)
    refine ⟨?_, fun j hj => ?_⟩
    · show qdrainM (quB (shFin s k) (k : Int)) (shFin s k).M = _
      rw [hq]; exact h1
    · show quB (shDrain (shFin s k) (k : Int)) (j : Int) = []
      unfold shDrain
      have hn : ∀ k, (shFin s k).n = s.n ∧ (shFin s k).Q.length = s.n := fun k => by
        induction k with
        | zero => exact ⟨rfl, hk.ql⟩
        | succ k ih => exact ⟨ih.1, by show ((shFin s k).Q.set _ _).length = _; rw [List.length_set]; exact ih.2⟩
      rw [Int.toNat_natCast, quB_set (by rw [(hn k).2]; omega)]
      split
      · rfl
      · exact h2 j hj
/-- All that was stored is in the bytes. -/
theorem syncs_fin {s : Shm} (hk : ShOk s) (hl : s.L.ev.length + 64 < 1000) : (shFin (shSyncs s s.n) s.n).M = (shSyncs s s.n).M := by
  obtain ⟨h1, h2, h3, h4⟩ := syncs_ok hk hl s.n (Nat.le_refl _)
  exact (fin_same h1 (fun j hj => h4 j (by omega)) s.n (by omega)).1
end Go.Ren
namespace Go.Ren
set_option linter.unusedVariables false
theorem bytesN_first (n m : Nat) : bytesN (n + 1) m = UInt8.ofNat m :: bytesN n (m / 256) := by
  unfold bytesN
  rw [List.range_succ_eq_map, List.map_cons, List.map_map]
  refine congr (congrArg List.cons (by simp)) (List.map_congr_left fun i _ => ?_)
  simp only [Function.comp]
  rw [Nat.shiftRight_eq_div_pow, Nat.shiftRight_eq_div_pow, Nat.div_div_eq_div_mul, show 8 * (i + 1) = 8 + 8 * i by omega, Nat.pow_add]
theorem word_bytes (n m : Nat) : wordN (bytesN n m) = m % 2 ^ (8 * n) := by
  induction n generalizing m with
  | zero => simp [bytesN, wordN, Nat.mod_one]
  | succ n ih =>
    rw [bytesN_first]
    show (UInt8.ofNat m).toNat + 256 * wordN (bytesN n (m / 256)) = _
    rw [ih]
    have h1 : (UInt8.ofNat m).toNat = m % 256 := by simp
    rw [h1, show 8 * (n + 1) = 8 + 8 * n by omega, Nat.pow_add]
    rw [show (2 : Nat) ^ 8 = 256 from rfl, Nat.mod_mul]
theorem two_ok {n room : Nat} (h : 1 ≤ n ∧ n ≤ 64) (hr : room ≤ 64) : ShOk (shTwo n room) := ((ok_new h hr).make 16).make 8
theorem run_ok {s : Shm} (hk : ShOk s) (l : List Op20) : ShOk (shRun s l) := by
  induction l generalizing s with
  | nil => exact hk
  | cons o l ih => exact ih (hk.act o)
theorem act_sz {s : Shm} (o : Op20) : SameSz s.M (shAct s o).2.M := by
  unfold shAct
  split
  · unfold shLoad; split; exact SameSz.refl _; unfold shSeq; show SameSz _ (shLd _ _ _ _ _ _ _).M; split; exact sz_drain _ _; exact SameSz.refl _
  split
  · unfold shStore; split; exact SameSz.refl _
    unfold shSt; simp only []; split; exact (sz_drain _ _).trans (sz_write _ _ _ _ _)
    exact (room_facts (shPush s (stEv o.ag o.blk o.at_ o.size o.word o.seq o.nt)) o.ag).2.2.2
  split
  · unfold shChange; split; exact SameSz.refl _; show SameSz _ (shWhole _ _ _ _ _ _ _).M; unfold shWhole; split; exact (sz_drain _ _).trans (sz_write _ _ _ _ _); exact sz_drain _ _
  split
  · unfold shSwap; split; exact SameSz.refl _; show SameSz _ (shWhole _ _ _ _ _ _ _).M; unfold shWhole; split; exact (sz_drain _ _).trans (sz_write _ _ _ _ _); exact sz_drain _ _
  split
  · unfold shSync; split; exact SameSz.refl _; exact sz_drain _ _
  split
  · unfold shFl; split; exact sz_flush _ _; exact SameSz.refl _
  split
  · unfold shTr; split; exact sz_tear _ _; exact SameSz.refl _
  split
  · exact sz_make _ _
  · exact SameSz.refl _
theorem run_sz (s : Shm) (l : List Op20) : SameSz s.M (shRun s l).M := by
  induction l generalizing s with
  | nil => exact SameSz.refl _
  | cons o l ih => exact (act_sz o).trans (ih _)
/-- What the first block allows. -/
theorem two_asked {n room : Nat} (h : 1 ≤ n) (l : List Op20) {a size : Int} (hs : size = 1 ∨ size = 2 ∨ size = 4 ∨ size = 8) (h0 : 0 ≤ a) (h1 : a ≤ 16 - size) : Asked (shRun (shTwo n room) l) 0 0 a size := by
  refine ⟨⟨0, rfl, by rw [(run_nr _ _).1]; exact h⟩, hs, bcheck_mono (run_sz _ _) ?_⟩
  have e1 : (blk (shTwo n room).M 0).b.length = 16 := rfl
  have e2 : (shTwo n room).M.length = 2 := rfl
  exact (bcheck_nat (k := 0)).2 (by omega)
/-- The agent's view of a range that it stored last. -/
structure Sees0 (s : Shm) (a size : Int) (w : Nat) : Prop where
  ok : ShOk s
  q : QIn s
  asked : Asked s 0 0 a size
  n : s.n = 1
  val : breadB (view s 0) 0 a size = bytesN size.toNat w
theorem Sees0.reads {s : Shm} {a size : Int} {w : Nat} (h : Sees0 s a size w) : wordN (ldB s 0 0 a size) = w % 2 ^ (8 * size.toNat) := by rw [(ld_view h.ok h.q h.asked).1, h.val, word_bytes]
theorem Sees0.store {s : Shm} (hk : ShOk s) (hq : QIn s) (hn : s.n = 1) {a size : Int} (hA : Asked s 0 0 a size) (hl : s.L.ev.length < 1000) (w : Nat) (seq nt : Bool) : Sees0 (shSt s 0 0 a size w seq nt) a size w := by
  have h1 : (bytesN size.toNat w).length = size.toNat := bytesN_len _ _
  have h2 := hA.sz
  have h3 : ((bytesN size.toNat w).length : Int) = size := by omega
  have hv := view_st hk hA hl w seq nt
  have hbv : BOk (view s 0) := bok_drain hk.bk (hk.qe 0 (by omega))
  have hcv : bcheck (view s 0) 0 a size = 0 := by unfold view; rw [(qdrainM_size _ _ _).1]; exact hA.chk
  refine ⟨hk.st hA hl, hq.st hk hA hl w seq nt, ⟨⟨0, rfl, ?_⟩, hA.sz, ?_⟩, ?_, ?_⟩
  · have := act_nr s ⟨1, 0, 0, a, size, 0, seq, nt, w, 0, []⟩
    have e : (shAct s ⟨1, 0, 0, a, size, 0, seq, nt, w, 0, []⟩).2.n = (shStore s 0 0 a size w seq nt).2.n := rfl
    unfold shSt
    split
    · show 0 < s.n; omega
    · show 0 < (shRoom _ _).n; rw [(room_facts _ _).1]; show 0 < s.n; omega
  · unfold shSt
    split
    · exact bcheck_mono ((sz_drain _ _).trans (sz_write _ _ _ _ _)) hA.chk
    · exact bcheck_mono (room_facts (shPush s (stEv 0 0 a size w seq nt)) 0).2.2.2 hA.chk
  · unfold shSt
    split
    · exact hn
    · show (shRoom _ _).n = 1; rw [(room_facts _ _).1]; exact hn
  · rw [hv]
    have h4 := bread_write hbv (k := 0) (a := a) (x := bytesN size.toNat w) (y := s.L.ev.length) (i64_len hk) (by rw [h3]; exact hcv)
    rw [h3] at h4
    exact h4
theorem Sees0.tear {s : Shm} {a size : Int} {w : Nat} (h : Sees0 s a size w) : Sees0 (shTr s 0).2 a size w := by
  unfold shTr
  split
  · have h1 : (0 : Nat) < s.n := by rw [h.n]; omega
    exact ⟨h.ok.tear h1, h.q.tear h.ok h1, ⟨⟨0, rfl, h1⟩, h.asked.sz, bcheck_mono (sz_tear _ _) h.asked.chk⟩, h.n, by rw [show (0 : Int) = ((0 : Nat) : Int) from rfl, view_tear s h.ok h.q h1]; exact h.val⟩
  · exact h
theorem Sees0.flush {s : Shm} {a size : Int} {w : Nat} (h : Sees0 s a size w) : Sees0 (shFl s 0).2 a size w := by
  unfold shFl
  split
  · have h1 : (0 : Nat) < s.n := by rw [h.n]; omega
    exact ⟨h.ok.flush h1, h.q.flush h.ok h1, ⟨⟨0, rfl, h1⟩, h.asked.sz, bcheck_mono (sz_flush _ _) h.asked.chk⟩, h.n, by rw [show (0 : Int) = ((0 : Nat) : Int) from rfl, view_flush s h.ok h1]; exact h.val⟩
  · exact h
theorem Sees0.seq {s : Shm} {a size : Int} {w : Nat} (h : Sees0 s a size w) (sq : Bool) : Sees0 (shSeq s 0 sq) a size w := by
  unfold shSeq
  split
  · have h1 : (0 : Nat) < s.n := by rw [h.n]; omega
    exact ⟨h.ok.drain h1, h.q.drain h.ok h1, h.asked.drain 0, h.n, by rw [show (0 : Int) = ((0 : Nat) : Int) from rfl, view_drain s h.ok h1]; exact h.val⟩
  · exact h
theorem Sees0.ld {s : Shm} {a size : Int} {w : Nat} (h : Sees0 s a size w) (hl : s.L.ev.length < 1000) (sq nt : Bool) : Sees0 (shLd s 0 0 a size sq nt) a size w := ⟨h.ok.ld h.asked hl, h.q, ⟨h.asked.ag, h.asked.sz, h.asked.chk⟩, h.n, h.val⟩
theorem asked_E {s : Shm} {a size : Int} (h : Asked s 0 0 a size) (hn : s.n = 1) (hl : s.L.ev.length < 1000) : shE s 0 0 a size 1 = 0 := by
  have h1 : agB s 0 = true := agB_iff.2 ⟨0, rfl, by omega⟩
  have h2 : goodB size = true := by have := h.sz; unfold goodB; rw [decide_eq_true_eq]; exact this
  have h3 : shC s 0 0 a size = 0 := by unfold shC; rw [h1, h2, if_neg (by simp)]; exact h.chk
  unfold shE
  rw [h3, if_neg (by omega), if_neg (by omega), if_neg (by omega)]
theorem Sees0.load {s : Shm} {a size : Int} {w : Nat} (h : Sees0 s a size w) (hl : s.L.ev.length < 1000) (sq nt : Bool) :
    (shLoad s 0 0 a size sq nt).1 = (w % 2 ^ (8 * size.toNat), 0) ∧ Sees0 (shLoad s 0 0 a size sq nt).2 a size w ∧ (shLoad s 0 0 a size sq nt).2.L.ev.length = s.L.ev.length + 1 ∧ (sq = true → quB (shLoad s 0 0 a size sq nt).2 0 = []) := by
  unfold shLoad
  rw [if_neg (by rw [asked_E h.asked h.n hl]; omega)]
  have hs := h.seq sq
  have hL : (shSeq s 0 sq).L = s.L := shSeq_L s 0 sq
  refine ⟨by simp only [hs.reads], hs.ld (by rw [hL]; exact hl) sq nt, ?_, fun e => ?_⟩
  · show ((shSeq s 0 sq).L.ev ++ [_]).length = _
    rw [hL]; simp
  · subst e
    exact drain_q (i := 0) h.ok (by rw [h.n]; omega)
theorem tr_L (s : Shm) (a : Int) : (shTr s a).2.L = s.L := by unfold shTr; split <;> rfl
theorem fl_L (s : Shm) (a : Int) : (shFl s a).2.L = s.L := by unfold shFl; split <;> rfl
/-- The whole course: store, load, tear, load, flush, load. -/
def own1 (s : Shm) (a size : Int) (w : Nat) : Shm := (shStore s 0 0 a size w false (decide (size < 8))).2
def own2 (s : Shm) (a size : Int) (w : Nat) : Shm := (shLoad (own1 s a size w) 0 0 a size false true).2
def own3 (s : Shm) (a size : Int) (w : Nat) : Shm := (shTr (own2 s a size w) 0).2
def own4 (s : Shm) (a size : Int) (w : Nat) : Shm := (shLoad (own3 s a size w) 0 0 a size false true).2
def own5 (s : Shm) (a size : Int) (w : Nat) : Shm := (shFl (own4 s a size w) 0).2
def own6 (s : Shm) (a size : Int) (w : Nat) : Shm := (shLoad (own5 s a size w) 0 0 a size true true).2
theorem two_len (n room : Nat) : (shTwo n room).L.ev.length = 0 := rfl
theorem run_few {n room : Nat} (l : List Op20) (hl : l.length ≤ 60) : (shRun (shTwo n room) l).L.ev.length ≤ 60 := by
  have h := run_len (shTwo n room) l
  rw [two_len] at h
  omega
theorem fin_one {s : Shm} (h : quB s 0 = []) : (shFin s 1).M = s.M := by
  show qdrainM (quB s 0) s.M = _
  rw [h]; rfl
theorem own_all {s : Shm} {room : Nat} (hr : room ≤ 64) (l : List Op20) (hl : l.length ≤ 60) (hsr : s = shRun (shTwo 1 room) l) {a size : Int} (hs : size = 1 ∨ size = 2 ∨ size = 4 ∨ size = 8) (h0 : 0 ≤ a) (h1 : a ≤ 16 - size) (w : Nat) :
    (shStore s 0 0 a size w false (decide (size < 8))).1 = 0
    ∧ (shLoad (own1 s a size w) 0 0 a size false true).1 = (w % 2 ^ (8 * size.toNat), 0)
    ∧ (shLoad (own3 s a size w) 0 0 a size false true).1 = (w % 2 ^ (8 * size.toNat), 0)
    ∧ (shLoad (own5 s a size w) 0 0 a size true true).1 = (w % 2 ^ (8 * size.toNat), 0)
    ∧ (own6 s a size w).n = 1 ∧ quB (own6 s a size w) 0 = [] ∧ (shFin (own6 s a size w) 1).M = (own6 s a size w).M ∧ ShOk (own6 s a size w) := by
  have ok : ShOk s := by rw [hsr]; exact run_ok (two_ok ⟨Nat.le_refl _, by omega⟩ hr) l
  have hq : QIn s := by rw [hsr]; exact QIn.run (two_ok ⟨Nat.le_refl _, by omega⟩ hr) (QIn.two 1 room) l
  have hn : s.n = 1 := by rw [hsr]; exact (run_nr _ _).1
  have hA : Asked s 0 0 a size := by rw [hsr]; exact two_asked (Nat.le_refl _) l hs h0 h1
  have he : s.L.ev.length ≤ 60 := by rw [hsr]; exact run_few l hl
  clear hsr
  have hE := asked_E hA hn (by omega)
  have e1 : own1 s a size w = shSt s 0 0 a size w false (decide (size < 8)) := by unfold own1 shStore; rw [if_neg (by omega)]
  have s1 : Sees0 (own1 s a size w) a size w := by rw [e1]; exact Sees0.store ok hq hn hA (by omega) w _ _
  have l1 : (own1 s a size w).L.ev.length = s.L.ev.length + 1 := by rw [e1, st_L]; simp
  obtain ⟨a2, s2, l2, _⟩ := s1.load (by omega) false true
  have s3 : Sees0 (own3 s a size w) a size w := s2.tear
  have l3 : (own3 s a size w).L = (own2 s a size w).L := tr_L _ _
  have l2' : (own2 s a size w).L.ev.length = s.L.ev.length + 2 := by show (shLoad _ _ _ _ _ _ _).2.L.ev.length = _; omega
  obtain ⟨a4, s4, l4, _⟩ := s3.load (by rw [l3]; omega) false true
  have s5 : Sees0 (own5 s a size w) a size w := s4.flush
  have l5 : (own5 s a size w).L = (own4 s a size w).L := fl_L _ _
  have l4' : (own4 s a size w).L.ev.length = s.L.ev.length + 3 := by show (shLoad _ _ _ _ _ _ _).2.L.ev.length = _; rw [l4, l3]; omega
  obtain ⟨a6, s6, l6, q6⟩ := s5.load (by rw [l5]; omega) true true
  have q6' : quB (own6 s a size w) 0 = [] := q6 rfl
  have a1 : (shStore s 0 0 a size w false (decide (size < 8))).1 = 0 := by unfold shStore; rw [if_neg (by omega)]
  have f6 := fin_one q6'
  have n6 : (own6 s a size w).n = 1 := s6.n
  have k6 : ShOk (own6 s a size w) := s6.ok
  exact ⟨a1, a2, a4, a6, n6, q6', f6, k6⟩
end Go.Ren
namespace Go.Ren
set_option linter.unusedVariables false
/-- A range beside a cell's. -/
def noov (K A n : Int) (x : Ev) : Prop := K ≠ x.blk ∨ A + n ≤ x.at_ ∨ x.at_ + x.size ≤ A
theorem bcheck_wr (M : List Blk) (K A : Int) (b : List UInt8) (y k a n : Int) : bcheck (bwrite M K A b y) k a n = bcheck M k a n := (qdrainM_size [⟨K, A, b, y, false⟩] M k).1 a n
theorem bread_far {M : List Blk} (h : BOk M) {K A k a n : Int} {b : List UInt8} {y : Int} (hy : I64 y) (hno : K ≠ k ∨ A + b.length ≤ a ∨ a + n ≤ A) : breadB (bwrite M K A b y) k a n = breadB M k a n := by
  by_cases hc : bcheck M k a n = 0
  · have hc' : bcheck (bwrite M K A b y) k a n = 0 := by rw [bcheck_wr]; exact hc
    obtain ⟨c1, c2, c3, c4, c5, c6⟩ := bcheck_0 hc
    obtain ⟨k, rfl⟩ : ∃ j : Nat, k = j := ⟨k.toNat, by omega⟩
    apply List.ext_getElem?
    intro j
    rw [(bread_get (bok_write h _ _ _ hy) hc' j).1, (bread_get h hc j).1]
    by_cases hj : j < n.toNat
    · rw [if_pos hj, if_pos hj, mb_write h, if_neg]
      rintro ⟨g1, g2, g3, g4⟩
      rcases hno with h | h | h
      · exact h g2
      · omega
      · omega
    · rw [if_neg hj, if_neg hj]
  · unfold breadB
    rw [if_neg hc, if_neg (by rw [bcheck_wr]; exact hc)]
/-- A cell's bytes in the blocks. -/
structure AtM (M : List Blk) (x : Ev) (R : List UInt8) : Prop where
  yes : bcheck M x.blk x.at_ x.size = 0 → breadB M x.blk x.at_ x.size = R
  no : bcheck M x.blk x.at_ x.size ≠ 0 → R = List.replicate x.size.toNat 0
theorem AtM.far {M : List Blk} {x : Ev} {R : List UInt8} (h : AtM M x R) (hM : BOk M) {K A : Int} {b : List UInt8} {y : Int} (hy : I64 y) (hno : noov K A b.length x) : AtM (bwrite M K A b y) x R :=
  ⟨fun hc => by rw [bread_far hM hy hno]; exact h.yes (by rw [bcheck_wr] at hc; exact hc), fun hc => h.no (by rw [bcheck_wr] at hc; exact hc)⟩
theorem AtM.hit {M : List Blk} {x : Ev} {b : List UInt8} (hM : BOk M) {y : Int} (hy : I64 y) (hb : (b.length : Int) = x.size) (hc : bcheck M x.blk x.at_ x.size = 0) : AtM (bwrite M x.blk x.at_ b y) x b := by
  refine ⟨fun _ => ?_, fun h => absurd hc (by rw [bcheck_wr] at h; exact h)⟩
  have := bread_write hM (k := x.blk) (a := x.at_) (x := b) hy (by rw [hb]; exact hc)
  rw [hb] at this
  exact this
theorem bcheck_snoc {M : List Blk} {k : Nat} {B : Blk} {a n : Int} (hk : k < M.length) : bcheck (M ++ [B]) (k : Int) a n = 0 ↔ bcheck M (k : Int) a n = 0 := by
  rw [bcheck_nat, bcheck_nat, blk_snoc, if_neg (by omega)]
  simp
  omega
theorem AtM.make {M : List Blk} {x : Ev} {R : List UInt8} (h : AtM M x R) (size : Int) : AtM (bmake M size) x R := by
  unfold bmake
  by_cases hm : bmakeE M size = 0
  · rw [if_pos hm]
    by_cases hc : bcheck (M ++ [newBlk size.toNat]) x.blk x.at_ x.size = 0
    · refine ⟨fun _ => ?_, fun h => absurd hc h⟩
      obtain ⟨c1, c2, c3, c4, c5, c6⟩ := bcheck_0 hc
      obtain ⟨k, hk⟩ : ∃ k : Nat, x.blk = k := ⟨x.blk.toNat, by omega⟩
      by_cases hlt : k < M.length
      · have h1 := h.yes (by rw [hk] at hc ⊢; exact (bcheck_snoc hlt).1 hc)
        rw [← h1]
        unfold breadB
        rw [if_pos hc, if_pos (by rw [hk] at hc ⊢; exact (bcheck_snoc hlt).1 hc), hk, Int.toNat_natCast, blk_snoc, if_neg (by omega)]
      · have hkm : k = M.length := by simp at c2; omega
        have h1 := h.no (by rw [hk, Ne, bcheck_nat]; omega)
        rw [h1]
        unfold breadB
        rw [if_pos hc, hk, Int.toNat_natCast, blk_snoc, if_pos hkm]
        rw [hk, Int.toNat_natCast, blk_snoc, if_pos hkm] at c5
        simp only [newBlk, List.length_replicate] at c5 ⊢
        unfold cut
        rw [List.drop_replicate, List.take_replicate]
        congr 1
        omega
    · refine ⟨fun h => absurd h hc, fun _ => h.no fun hh => hc ?_⟩
      obtain ⟨c1, c2, c3, c4, c5, c6⟩ := bcheck_0 hh
      obtain ⟨k, hk⟩ : ∃ k : Nat, x.blk = k := ⟨x.blk.toNat, by omega⟩
      rw [hk] at hh ⊢
      exact (bcheck_snoc (by omega)).2 hh
  · rw [if_neg hm]; exact h
/-- No buffered bytes in a cell's range. -/
def QNo (s : Shm) (x : Ev) : Prop := ∀ i : Nat, i < s.n → ∀ e ∈ quB s (i : Int), noov e.blk e.at_ e.b.length x
theorem drain_far {E : List Ent} {x : Ev} {R : List UInt8} : ∀ {M : List Blk}, BOk M → (∀ e ∈ E, EOk e) → (∀ e ∈ E, noov e.blk e.at_ e.b.length x) → AtM M x R → AtM (qdrainM E M) x R := by
  induction E with
  | nil => intro M h1 h2 h3 h; exact h
  | cons e E ih =>
    intro M h1 h2 h3 h
    have hy : I64 e.by_ := by have := (h2 e (by simp)).by_; unfold I64; omega
    rw [qdrainM_cons]
    exact ih (bok_write h1 _ _ _ hy) (fun a ha => h2 a (by simp [ha])) (fun a ha => h3 a (by simp [ha])) (h.far h1 hy (h3 e (by simp)))
theorem flush_far {E : List Ent} {x : Ev} {R : List UInt8} {M : List Blk} (h1 : BOk M) (h2 : ∀ e ∈ E, EOk e) (h3 : ∀ e ∈ E, noov e.blk e.at_ e.b.length x) (h : AtM M x R) : AtM (qflushM E M) x R := by
  cases E with
  | nil => exact h
  | cons e E =>
    have hy : I64 e.by_ := by have := (h2 e (by simp)).by_; unfold I64; omega
    exact h.far h1 hy (h3 e (by simp))
theorem tear_far {E : List Ent} {x : Ev} {R : List UInt8} {M : List Blk} (h1 : BOk M) (h2 : ∀ e ∈ E, EOk e) (h3 : ∀ e ∈ E, noov e.blk e.at_ e.b.length x) (h : AtM M x R) : AtM (qtearM E M) x R := by
  cases E with
  | nil => exact h
  | cons e E =>
    have hy : I64 e.by_ := by have := (h2 e (by simp)).by_; unfold I64; omega
    have h4 := h3 e (by simp)
    simp only [qtearM]
    split
    · refine h.far h1 hy ?_
      unfold noov at h4 ⊢
      rw [List.length_take]
      omega
    · exact h
theorem qtear_no {E : List Ent} {x : Ev} (h3 : ∀ e ∈ E, noov e.blk e.at_ e.b.length x) : ∀ e ∈ qtear E, noov e.blk e.at_ e.b.length x := by
  cases E with
  | nil => exact h3
  | cons e E =>
    intro a ha
    simp only [qtear] at ha
    split at ha
    · rcases List.mem_cons.1 ha with rfl | ha
      · have h4 := h3 e (by simp)
        unfold noov at h4 ⊢
        have e1 : (tearEnt e).blk = e.blk := rfl
        have e2 : (tearEnt e).at_ = e.at_ + (e.b.length / 2 : Nat) := rfl
        have e3 : (tearEnt e).b.length = e.b.length - e.b.length / 2 := by simp [tearEnt]
        rw [e1, e2, e3]
        omega
      · exact h3 a (by simp [ha])
    · exact h3 a ha
theorem repS_ev (x : Ev) {L L' : Lg} : ∀ k, (∀ j, j < k → evn L.ev j = evn L'.ev j) → repS L x k = repS L' x k
  | 0, _ => rfl
  | k + 1, h => by
    show (if (evEq (evn L.ev k) x && wrsB (evn L.ev k)) = true then (evn L.ev k).wr else repS L x k) = _
    rw [repS_ev x k (fun j hj => h j (by omega)), h k (by omega)]; rfl
theorem rep1_ev (x : Ev) {L L' : Lg} {k : Nat} (h : ∀ j, j ≤ k → evn L.ev j = evn L'.ev j) : rep1 L x k = rep1 L' x k := by
  unfold rep1
  rw [repS_ev x k (fun j hj => h j (by omega)), h k (Nat.le_refl _)]
structure CInv (s : Shm) (x : Ev) : Prop where
  at_ : AtM s.M x (repS s.L x s.L.ev.length)
  q : QNo s x
  rp : ∀ k, k < s.L.ev.length → rep1 s.L x k = false
theorem QNo.set {s : Shm} (hk : ShOk s) {x : Ev} (h : QNo s x) {i : Nat} (hi : i < s.n) {M : List Blk} {E : List Ent} (hE : ∀ e ∈ E, noov e.blk e.at_ e.b.length x) : QNo ⟨s.n, s.room, M, s.Q.set i E, s.L⟩ x := by
  intro j hj e he
  rw [quB_set (by rw [hk.ql]; exact hi)] at he
  split at he
  · exact hE e he
  · exact h j hj e he
theorem CInv.drain {s : Shm} (hk : ShOk s) {x : Ev} (h : CInv s x) {i : Nat} (hi : i < s.n) : CInv (shDrain s (i : Int)) x := ⟨drain_far hk.bk (hk.qe i hi) (h.q i hi) h.at_, h.q.set hk hi (fun e he => by cases he), h.rp⟩
theorem CInv.flush {s : Shm} (hk : ShOk s) {x : Ev} (h : CInv s x) {i : Nat} (hi : i < s.n) : CInv (shFlush s (i : Int)) x := ⟨flush_far hk.bk (hk.qe i hi) (h.q i hi) h.at_, h.q.set hk hi (fun e he => h.q i hi e (List.mem_of_mem_tail he)), h.rp⟩
theorem CInv.tear {s : Shm} (hk : ShOk s) {x : Ev} (h : CInv s x) {i : Nat} (hi : i < s.n) : CInv (shTear s (i : Int)) x := ⟨tear_far hk.bk (hk.qe i hi) (h.q i hi) h.at_, h.q.set hk hi (qtear_no (h.q i hi)), h.rp⟩
theorem CInv.room_ {s : Shm} (hk : ShOk s) {x : Ev} (h : CInv s x) {i : Nat} (hi : i < s.n) : CInv (shRoom s (i : Int)) x := by unfold shRoom; split; exact h.flush hk hi; exact h
theorem CInv.put {s : Shm} (hk : ShOk s) {x : Ev} (h : CInv s x) {i : Nat} (hi : i < s.n) {e : Ent} (he : noov e.blk e.at_ e.b.length x) : CInv (shPut s (i : Int) e) x := by
  refine ⟨h.at_, h.q.set hk hi (fun a ha => ?_), h.rp⟩
  unfold qput at ha
  split at ha
  · rcases List.mem_append.1 ha with ha | ha
    · exact h.q i hi a ha
    · rw [List.mem_singleton.1 ha]; exact he
  · exact h.q i hi a ha
theorem CInv.make {s : Shm} {x : Ev} (h : CInv s x) (size : Int) : CInv (shMake s size).2 x := ⟨h.at_.make size, h.q, h.rp⟩
theorem CInv.write {s : Shm} (hk : ShOk s) {x : Ev} (h : CInv s x) {K A : Int} {b : List UInt8} {y : Int} (hy : I64 y) (hno : noov K A b.length x) : CInv (shWrite s K A b y) x := ⟨h.at_.far hk.bk hy hno, h.q, h.rp⟩
theorem CInv.pairs {s : Shm} {x : Ev} (h : CInv s x) (p : List (Int × Int)) : CInv (shPairs s p) x :=
  ⟨(by have e : repS (shPairs s p).L x (shPairs s p).L.ev.length = repS s.L x s.L.ev.length := repS_ev x _ (fun j _ => rfl)
       rw [e]; exact h.at_), h.q, fun k hk => (rep1_ev (L := (shPairs s p).L) (L' := s.L) x (fun j _ => rfl)).trans (h.rp k hk)⟩
theorem push_rep (s : Shm) (e x : Ev) : (∀ k, k < s.L.ev.length → rep1 (shPush s e).L x k = rep1 s.L x k) ∧ rep1 (shPush s e).L x s.L.ev.length = (evEq e x && (rdsB e && !(e.rd == repS s.L x s.L.ev.length)))
    ∧ repS (shPush s e).L x (s.L.ev.length + 1) = if (evEq e x && wrsB e) = true then e.wr else repS s.L x s.L.ev.length := by
  have h1 : repS (shPush s e).L x s.L.ev.length = repS s.L x s.L.ev.length := repS_ev x _ fun j hj => evn_lt hj
  refine ⟨fun k hk => rep1_ev x fun j hj => evn_lt (by omega), ?_, ?_⟩
  · unfold rep1
    rw [h1]
    show (evEq (evn (s.L.ev ++ [e]) _) x && (rdsB (evn (s.L.ev ++ [e]) _) && !((evn (s.L.ev ++ [e]) _).rd == _))) = _
    rw [evn_at]
  · show (if (evEq (evn (s.L.ev ++ [e]) _) x && wrsB (evn (s.L.ev ++ [e]) _)) = true then (evn (s.L.ev ++ [e]) _).wr else repS (shPush s e).L x s.L.ev.length) = _
    rw [evn_at, h1]
theorem push_len (s : Shm) (e : Ev) : (shPush s e).L.ev.length = s.L.ev.length + 1 := by show (s.L.ev ++ [e]).length = _; simp
/-- An event beside the cell. -/
theorem CInv.push {s : Shm} {x : Ev} (h : CInv s x) {e : Ev} (he : evEq e x = false) : CInv (shPush s e) x := by
  obtain ⟨h1, h2, h3⟩ := push_rep s e x
  rw [he] at h2 h3
  refine ⟨?_, h.q, fun k hk => ?_⟩
  · rw [push_len, h3]; exact h.at_
  · rw [push_len] at hk
    by_cases hl : k < s.L.ev.length
    · rw [h1 k hl]; exact h.rp k hl
    · rw [show k = s.L.ev.length by omega, h2]; rfl
/-- What a read of the cell finds. -/
theorem CInv.reads {s : Shm} {x : Ev} (h : CInv s x) {e : Ev} (hr : e.rd = repS s.L x s.L.ev.length) (hw : wrsB e = false) : CInv (shPush s e) x := by
  obtain ⟨h1, h2, h3⟩ := push_rep s e x
  rw [hw, Bool.and_false] at h3
  refine ⟨?_, h.q, fun k hk => ?_⟩
  · rw [push_len, h3]; exact h.at_
  · rw [push_len] at hk
    by_cases hl : k < s.L.ev.length
    · rw [h1 k hl]; exact h.rp k hl
    · rw [show k = s.L.ev.length by omega, h2, hr]; simp
/-- What a write of the cell leaves. -/
theorem CInv.writes {s : Shm} (hk : ShOk s) {x : Ev} (h : CInv s x) {e : Ev} (hr : rdsB e = true → e.rd = repS s.L x s.L.ev.length) (hq : evEq e x = true) (hw : wrsB e = true) (hc : bcheck s.M x.blk x.at_ x.size = 0) (hl : (e.wr.length : Int) = x.size) : CInv (shWrite (shPush s e) x.blk x.at_ e.wr s.L.ev.length) x := by
  obtain ⟨h1, h2, h3⟩ := push_rep s e x
  rw [hw, hq] at h3
  refine ⟨?_, h.q, fun k hk => ?_⟩
  · show AtM (bwrite s.M x.blk x.at_ e.wr _) x (repS (shPush s e).L x (shPush s e).L.ev.length)
    rw [push_len, h3]
    exact AtM.hit hk.bk (i64_len hk) hl hc
  · show rep1 (shPush s e).L x k = false
    have hk : k < (shPush s e).L.ev.length := hk
    rw [push_len] at hk
    by_cases hl : k < s.L.ev.length
    · rw [h1 k hl]; exact h.rp k hl
    · rw [show k = s.L.ev.length by omega, h2]
      cases hd : rdsB e with
      | false => simp
      | true => rw [hr hd]; simp
/-- An event that is clean for a cell lies beside it, or is Seq and its own. -/
theorem cl_cases {e x : Ev} (h : cl1 e x = false) (he : e.kind ≠ 0) (hs : 1 ≤ e.size) (hx : x.kind ≠ 0) (hxs : 1 ≤ x.size) : (noov e.blk e.at_ e.size x ∧ evEq e x = false) ∨ (e.seq = true ∧ evEq e x = true ∧ e.blk = x.blk ∧ e.at_ = x.at_ ∧ e.size = x.size) := by
  by_cases hq : evEq e x = true
  · have h2 := hq
    unfold evEq at h2
    rw [decide_eq_true_eq] at h2
    refine .inr ⟨?_, hq, h2.2.2⟩
    cases hseq : e.seq with
    | true => rfl
    | false =>
      exfalso
      have h3 : evOver e x = true := by
        unfold evOver withB
        simp only [Bool.and_eq_true, Bool.or_eq_true, decide_eq_true_eq]
        omega
      unfold cl1 at h
      rw [h3, hseq] at h
      simp at h
  · have hq' : evEq e x = false := by simpa using hq
    refine .inl ⟨?_, hq'⟩
    have h3 : evOver e x = false := by
      unfold cl1 at h
      rw [hq'] at h
      simpa using h
    unfold noov
    rw [Bool.eq_false_iff] at h3
    apply Classical.byContradiction
    intro hn
    apply h3
    unfold evOver withB
    simp only [Bool.and_eq_true, Bool.or_eq_true, decide_eq_true_eq]
    omega
theorem CInv.atv {s : Shm} {x : Ev} (h : CInv s x) {k a size : Int} (e1 : k = x.blk) (e2 : a = x.at_) (e3 : size = x.size) (hc : bcheck s.M k a size = 0) : breadB s.M k a size = repS s.L x s.L.ev.length := by
  subst e1; subst e2; subst e3; exact h.at_.yes hc
theorem Asked.pos {s : Shm} {ag k a size : Int} (h : Asked s ag k a size) : 1 ≤ size := by have := h.sz; omega
theorem ok_ch {s : Shm} (hk : ShOk s) {ag k a size : Int} (h : Asked s ag k a size) (hl : s.L.ev.length < 1000) (w : Nat) : ShOk (shPush s (chEv s ag k a size w)) := by
  obtain ⟨r1, r2, r3, r4, r5, r6, r7⟩ := h.rng hk
  have h1 := bread_len20 hk.bk (k := k) (a := a) (n := size)
  have h2 := h1.2.2 h.chk
  have h4 := h.sz
  refine hk.push hl ⟨r1, i64_one rfl, r2, r3, r4, breadY_i hk.bk⟩ ⟨?_, ?_, ?_⟩
  · show (breadB _ _ _ _).length ≤ 8; omega
  · simp only [chEv, bytesN_len]; omega
  · show (breadY _ _ _ _).length ≤ 8; omega
/-- What reads, and may be writes, at once. -/
theorem CInv.whole {s : Shm} (hk : ShOk s) {x : Ev} (hx : x.kind ≠ 0) (hxs : 1 ≤ x.size) (h : CInv s x) {ag k a size : Int} (hA : Asked s ag k a size) (hl : s.L.ev.length < 1000) (w : Nat) (put : Bool)
    (hcl : ∀ e, (shWhole s ag k a size w put).L.ev = s.L.ev ++ [e] → cl1 e x = false) : CInv (shWhole s ag k a size w put) x := by
  have hp := hA.pos
  have hbl : ((bytesN size.toNat w).length : Int) = size := by rw [bytesN_len]; omega
  unfold shWhole at hcl ⊢
  split
  · rename_i hput
    rw [if_pos hput] at hcl
    rcases cl_cases (hcl _ rfl) (by simp [chEv]) hp hx hxs with ⟨c1, c2⟩ | ⟨c1, c2, c3, c4, c5⟩
    · exact CInv.write (s := shPush s (chEv s ag k a size w)) (ok_ch hk hA hl w) (h.push c2) (i64_len hk) (by rw [hbl]; exact c1)
    · have e1 : k = x.blk := c3
      have e2 : a = x.at_ := c4
      have e3 : size = x.size := c5
      have h4 := h.writes hk (e := chEv s ag k a size w) (fun _ => h.atv e1 e2 e3 hA.chk) c2 rfl (by rw [← e1, ← e2, ← e3]; exact hA.chk) (by rw [← e3]; exact hbl)
      rw [← e1, ← e2] at h4
      exact h4
  · rename_i hput
    rw [if_neg hput] at hcl
    rcases cl_cases (hcl _ rfl) (by simp [whEv]) hp hx hxs with ⟨c1, c2⟩ | ⟨c1, c2, c3, c4, c5⟩
    · exact h.push c2
    · exact h.reads (h.atv c3 c4 c5 hA.chk) rfl
/-- The calls keep it, as long as what they log is clean. -/
theorem CInv.act {s : Shm} (hk : ShOk s) {x : Ev} (hx : x.kind ≠ 0) (hxs : 1 ≤ x.size) (h : CInv s x) (o : Op20) (hcl : ∀ e ∈ (shAct s o).2.L.ev, cl1 e x = false) : CInv (shAct s o).2 x := by
  unfold shAct at hcl ⊢
  split at hcl
  · rename_i c; rw [if_pos c]; unfold shLoad at hcl ⊢; split at hcl
    · rename_i d; rw [if_pos d]; exact h
    · rename_i d; rw [if_neg d]
      obtain ⟨hA, h2, h3⟩ := shE_0 (by omega : shE s o.ag o.blk o.at_ o.size 1 = 0)
      obtain ⟨i, hi, hin⟩ := hA.ag
      have hp := hA.pos
      have h0 : CInv (shSeq s o.ag o.seq) x := by unfold shSeq; split; rw [hi]; exact h.drain hk hin; exact h
      have hcl' := hcl ⟨o.ag, 1, o.seq, o.nt, o.blk, o.at_, o.size, ldB (shSeq s o.ag o.seq) o.ag o.blk o.at_ o.size, [], ldY (shSeq s o.ag o.seq) o.ag o.blk o.at_ o.size⟩ (List.mem_append_right _ (List.mem_singleton.2 rfl))
      rcases cl_cases hcl' (by simp) hp hx hxs with ⟨c1, c2⟩ | ⟨c1, c2, c3, c4, c5⟩
      · exact h0.push c2
      · refine h0.reads ?_ rfl
        have hs : o.seq = true := c1
        show ldB (shSeq s o.ag o.seq) o.ag o.blk o.at_ o.size = _
        rw [hs, show shSeq s o.ag true = shDrain s o.ag from rfl]
        have h4 : CInv (shDrain s o.ag) x := by rw [hi]; exact h.drain hk hin
        have h5 : quB (shDrain s o.ag) o.ag = [] := by rw [hi]; exact drain_q hk hin
        have h6 : ldB (shDrain s o.ag) o.ag o.blk o.at_ o.size = breadB (shDrain s o.ag).M o.blk o.at_ o.size := by
          unfold ldB qoverB
          rw [h5]
          split <;> rfl
        rw [h6]
        exact h4.atv c3 c4 c5 (hA.drain o.ag).chk
  rename_i c0; rw [if_neg c0]
  split at hcl
  · rename_i c; rw [if_pos c]; simp only [] at hcl ⊢; unfold shStore at hcl ⊢; split at hcl
    · rename_i d; rw [if_pos d]; exact h
    · rename_i d; rw [if_neg d]
      obtain ⟨hA, h2, h3⟩ := shE_0 (by omega : shE s o.ag o.blk o.at_ o.size 1 = 0)
      obtain ⟨i, hi, hin⟩ := hA.ag
      have hp := hA.pos
      have hbl : ((bytesN o.size.toNat o.word).length : Int) = o.size := by rw [bytesN_len]; omega
      have hcl' := hcl (stEv o.ag o.blk o.at_ o.size o.word o.seq o.nt) (by simp only []; rw [st_L]; exact List.mem_append_right _ (List.mem_singleton.2 rfl))
      have hok := hk.st0 (w := o.word) (seq := o.seq) (nt := o.nt) hA h3
      simp only []
      unfold shSt
      split
      · rename_i hsr
        have h4 : CInv (shDrain s o.ag) x := by rw [hi]; exact h.drain hk hin
        have k4 : ShOk (shDrain s o.ag) := by rw [hi]; exact hk.drain hin
        have e1 : shDrain (shPush s (stEv o.ag o.blk o.at_ o.size o.word o.seq o.nt)) o.ag = shPush (shDrain s o.ag) (stEv o.ag o.blk o.at_ o.size o.word o.seq o.nt) := rfl
        have k5 : ShOk (shPush (shDrain s o.ag) (stEv o.ag o.blk o.at_ o.size o.word o.seq o.nt)) := k4.st0 (hA.drain o.ag) h3
        rw [e1]
        rcases cl_cases hcl' (by simp [stEv]) hp hx hxs with ⟨c1, c2⟩ | ⟨c1, c2, c3, c4, c5⟩
        · exact CInv.write k5 (h4.push c2) (i64_len hk) (by rw [hbl]; exact c1)
        · have e2 : o.blk = x.blk := c3
          have e3 : o.at_ = x.at_ := c4
          have e4 : o.size = x.size := c5
          have h5 := h4.writes k4 (e := stEv o.ag o.blk o.at_ o.size o.word o.seq o.nt) (fun hh => by simp [rdsB, stEv] at hh) c2 rfl (by rw [← e2, ← e3, ← e4]; exact (hA.drain o.ag).chk) (by rw [← e4]; exact hbl)
          rw [← e2, ← e3] at h5
          exact h5
      · rename_i hsr
        rcases cl_cases hcl' (by simp [stEv]) hp hx hxs with ⟨c1, c2⟩ | ⟨c1, _⟩
        · have h4 : CInv (shPush s (stEv o.ag o.blk o.at_ o.size o.word o.seq o.nt)) x := h.push c2
          have hf := room_facts (shPush s (stEv o.ag o.blk o.at_ o.size o.word o.seq o.nt)) o.ag
          rw [hi] at h4 hok hf ⊢
          refine CInv.put (hok.room_ hin) (h4.room_ hok hin) (by rw [hf.1]; exact hin) ?_
          show noov o.blk o.at_ (bytesN o.size.toNat o.word).length x
          rw [hbl]; exact c1
        · exact absurd (.inl c1) hsr
  rename_i c1; rw [if_neg c1]
  split at hcl
  · rename_i c; rw [if_pos c]; unfold shChange at hcl ⊢; split at hcl
    · rename_i d; rw [if_pos d]; exact h
    · rename_i d; rw [if_neg d]
      obtain ⟨hA, h2, h3⟩ := shE_0 (by omega : shE s o.ag o.blk o.at_ o.size o.op = 0)
      obtain ⟨i, hi, hin⟩ := hA.ag
      have h4 : CInv (shDrain s o.ag) x := by rw [hi]; exact h.drain hk hin
      have k4 : ShOk (shDrain s o.ag) := by rw [hi]; exact hk.drain hin
      exact h4.whole k4 hx hxs (hA.drain o.ag) h3 _ _ (fun e he => hcl e (by show e ∈ (shWhole _ _ _ _ _ _ _).L.ev; rw [he]; exact List.mem_append_right _ (List.mem_singleton.2 rfl)))
  rename_i c2; rw [if_neg c2]
  split at hcl
  · rename_i c; rw [if_pos c]; unfold shSwap at hcl ⊢; split at hcl
    · rename_i d; rw [if_pos d]; exact h
    · rename_i d; rw [if_neg d]
      obtain ⟨hA, h2, h3⟩ := shE_0 (by omega : shE s o.ag o.blk o.at_ o.size 1 = 0)
      obtain ⟨i, hi, hin⟩ := hA.ag
      have h4 : CInv (shDrain s o.ag) x := by rw [hi]; exact h.drain hk hin
      have k4 : ShOk (shDrain s o.ag) := by rw [hi]; exact hk.drain hin
      exact h4.whole k4 hx hxs (hA.drain o.ag) h3 _ _ (fun e he => hcl e (by show e ∈ (shWhole _ _ _ _ _ _ _).L.ev; rw [he]; exact List.mem_append_right _ (List.mem_singleton.2 rfl)))
  rename_i c3; rw [if_neg c3]
  split
  · unfold shSync; split
    · exact h
    · rename_i d
      obtain ⟨⟨i, hi, hin⟩, h2, h3⟩ := syE_0 (by omega : syE s o.ag o.fr = 0)
      have h4 : CInv (shDrain s o.ag) x := by rw [hi]; exact h.drain hk hin
      exact (h4.push (e := syEv o.ag) (by simp [evEq, syEv])).pairs _
  split
  · unfold shFl; split
    · rename_i hh
      rw [Bool.and_eq_true] at hh
      obtain ⟨i, hi, hin⟩ := agB_iff.1 hh.1
      rw [hi]; exact h.flush hk hin
    · exact h
  split
  · unfold shTr; split
    · rename_i hh
      rw [Bool.and_eq_true] at hh
      obtain ⟨i, hi, hin⟩ := agB_iff.1 hh.1
      rw [hi]; exact h.tear hk hin
    · exact h
  split
  · exact h.make o.size
  · exact h
theorem act_grow (s : Shm) (o : Op20) : ∃ E, (shAct s o).2.L.ev = s.L.ev ++ E := by
  by_cases h : 0 ≤ o.kind ∧ o.kind ≤ 4
  · by_cases he : (shAct s o).1.2 = 0
    · obtain ⟨e, h1, _⟩ := act_ok s o h he
      exact ⟨[e], h1⟩
    · exact ⟨[], by rw [act_err s o h he]; simp⟩
  · exact ⟨[], by rw [act_quiet s o (by omega)]; simp⟩
theorem run_grow (s : Shm) (l : List Op20) : ∃ E, (shRun s l).L.ev = s.L.ev ++ E := by
  induction l generalizing s with
  | nil => exact ⟨[], by simp [shRun]⟩
  | cons o l ih =>
    obtain ⟨E, hE⟩ := ih (shAct s o).2
    obtain ⟨E2, hE2⟩ := act_grow s o
    exact ⟨E2 ++ E, by rw [← List.append_assoc, ← hE2]; exact hE⟩
theorem CInv.run {s : Shm} (hk : ShOk s) {x : Ev} (hx : x.kind ≠ 0) (hxs : 1 ≤ x.size) (l : List Op20) (h : CInv s x) (hcl : ∀ e ∈ (shRun s l).L.ev, cl1 e x = false) : CInv (shRun s l) x := by
  induction l generalizing s with
  | nil => exact h
  | cons o l ih =>
    refine ih (hk.act o) (h.act hk hx hxs o fun e he => hcl e ?_) hcl
    obtain ⟨E, hE⟩ := run_grow (shAct s o).2 l
    show e ∈ (shRun (shAct s o).2 l).L.ev
    rw [hE]; exact List.mem_append_left _ he
theorem cinv_new {n room : Nat} (x : Ev) : CInv (shNew n room) x :=
  ⟨⟨fun h => by obtain ⟨c1, c2, _⟩ := bcheck_0 h; simp [shNew] at c2; omega, fun _ => rfl⟩, fun i hi e he => (by rw [new_quB] at he; cases he), fun k hk => absurd hk (Nat.not_lt_zero _)⟩
/-- The cell's results are those of one object. -/
theorem cell_law {n room : Nat} (h : 1 ≤ n ∧ n ≤ 64) (hr : room ≤ 64) (l : List Op20) (b a size : Int) : repB (shRun (shTwo n room) l).L (ldE b a size) = cleanB (shRun (shTwo n room) l).L (ldE b a size) := by
  cases hc : cleanB (shRun (shTwo n room) l).L (ldE b a size) with
  | false => exact rep_no hc
  | true =>
    have hg := (clean_facts hc).2
    have hs : 1 ≤ (ldE b a size).size := by unfold goodB at hg; simp only [decide_eq_true_eq] at hg; omega
    have hcl : ∀ e ∈ (shRun (shTwo n room) l).L.ev, cl1 e (ldE b a size) = false := by
      intro e he
      obtain ⟨i, hi, rfl⟩ := List.getElem_of_mem he
      unfold cleanB at hc
      rw [Bool.and_eq_true, List.all_eq_true] at hc
      have h1 := hc.2 i (List.mem_range.2 hi)
      rw [evn_eq hi] at h1
      simpa using h1
    have h0 : CInv (shTwo n room) (ldE b a size) := ((cinv_new _).make 16).make 8
    have h1 := h0.run (two_ok h hr) (by simp [ldE]) hs l hcl
    exact rep_yes hc h1.rp
end Go.Ren
