/-
  The contracts of event.Copy, (*shared.Shared).Log, shared.drained. No condition. A shared memory whose buffers are made one by one. No condition. The contract of (*shared.Shared).Copy. No condition. The contract of (*shared.Shared).Final. No condition. The contract of shared.New. No condition.
-/
import Derived.Test.YtbhocahmhmafmaaGreatPShNote
import Derived.Test.YtbhocahmhmafmaaGreatPFifoDelete
namespace Go.Ren
set_option linter.unusedVariables false
theorem headL_all {L : Lg} (h : ∀ p ∈ L.pr, prOk L.ev.length p = true) : headL L L.ev.length = L := by
 have e : headN L L.ev.length = L.ev.length := by unfold headN; omega
 unfold headL
 rw [e, List.take_length]
 have hf : L.pr.filter (inHead L.ev.length) = L.pr := by
  rw [List.filter_eq_self]
  intro p hp
  have ho := h p hp
  unfold prOk at ho
  unfold inHead
  simp only [decide_eq_true_eq] at ho ⊢
  omega
 rw [hf]
end Go.Ren
namespace Go.Proofs.YtbhocahmhmafmaaGreat
open Go.Ren Go.RowKit
set_option linter.unusedVariables false
def LogPost (L : Lg) (w : World) (r : Ending) (w' : World) : Prop := ∃ hv pv V', r = .returned (.agg #[hv, pv]) ∧ LogOwn w' hv pv V' L ∧ Ext w w' ∧ ∀ k, LogFp hv pv V' L.ev.length k → w.heap.size ≤ k
theorem LogOwn.stored {w : World} {hv pv : Value} {V : Nat → Vs} {L : Lg} (h : LogOwn w hv pv V L) {g : Nat} {cs : Array Value} (hb : w.heap[g]? = some (.cells cs 48 (0, 0))) :
 LogOwn ((w.setCell ⟨g, 0, none⟩ hv).setCell ⟨g, 1, none⟩ pv) hv pv V L ∧ Mod (fun q => q = g) w ((w.setCell ⟨g, 0, none⟩ hv).setCell ⟨g, 1, none⟩ pv) := by
 have M5 : Mod (fun q => q = g) w ((w.setCell ⟨g, 0, none⟩ hv).setCell ⟨g, 1, none⟩ pv) := Mod.setCell (F := fun q => q = g) (Mod.setCell (F := fun q => q = g) (Mod.refl _ _) (.inl rfl) _) (.inl rfl) _
 refine ⟨h.mod M5 (fun q hq hl => ?_), M5⟩
 subst hl
 rcases hq with hq | hq | ⟨i, hi, hq⟩
 · exact h.row.apart_obj hb (by decide) hq
 · exact h.prow.apart_obj hb (by decide) hq
 · exact (h.ev i hi).apart hb (by decide) (by decide) hq
set_option maxRecDepth 100000 in
theorem evcopy_any (w : World) (ve vp : Value) (V : Nat → Vs) (L : Lg) (h : LogIn w ve vp V L) (hsm : Small L) (hp : ∀ p ∈ L.pr, prOk L.ev.length p = true) :
 Calls Tryz.prog 65 #[.agg #[ve, vp]] w (LogPost L w) := by
 have q1 := Sl.cells_eq h.row
 have q2 := Sl.cells_eq h.prow
 have s1 := Sl.run_st (P := Tryz.prog) h.row
 have s2 := Sl.run_st (P := Tryz.prog) h.prow
 have l1 := h.row.run_len (P := Tryz.prog) IEv.und 3
 obtain ⟨w0, hw0⟩ : ∃ w0, w0 = (w.alloc (.cells #[ve, vp] 48)).alloc (.cells #[.slice none 0 0, .slice none 0 0] 48) := ⟨_, rfl⟩
 obtain ⟨g, hg⟩ : ∃ g, g = w.heap.size := ⟨_, rfl⟩
 have x0 : Ext w w0 := by rw [hw0]; exact ((Mod.refl _ _).alloc _).alloc _
 have b0 : w0.heap[g]? = some (.cells #[ve, vp] 48 (0, 0)) := by rw [hw0, hg]; exact heap_alloc2_old _ _ _
 have b1 : w0.heap[g + 1]? = some (.cells #[.slice none 0 0, .slice none 0 0] 48 (0, 0)) := by rw [hw0, hg]; exact heap_alloc2_new _ _ _
 have c0 : w0.cell? ⟨g, 0, none⟩ = some ve := by simp [World.cell?, b0]
 have c1 : w0.cell? ⟨g, 1, none⟩ = some vp := by simp [World.cell?, b0]
 have HW := Lib.hid (And.intro hw0 (And.intro hg (And.intro x0 b1)))
 have HL := Lib.hid (And.intro h (And.intro hsm hp))
 clear hw0 hg x0 b0 b1 h hsm hp
 go_enter Tryz.func65, Tryz.ntmps65
 go_upto_region 1 with fail
 rw [← HW.out.1, ← HW.out.2.1]
 clear s1 s2
 go_wp2_with fail
 refine (head_any _ ve vp V L (HL.out.1.ext HW.out.2.2.1) _ (by have h1 := HL.out.2.1.ev; unfold I64; omega) HL.out.2.1).mono ?_
 rintro e w1 ⟨hv, pv, V', rfl, lo, x1, f1⟩
 rw [headL_all HL.out.2.2] at lo f1
 obtain ⟨la1, lc1, hhv, -⟩ := lo.row.sl.shape
 obtain ⟨la2, lc2, hpv, -⟩ := lo.prow.sl.shape
 subst hhv hpv
 have b2 := x1.blk HW.out.2.2.2
 have d0 : w1.cell? ⟨g + 1, 0, none⟩ = some (.slice none 0 0) := by simp [World.cell?, b2]
 have d1 : w1.cell? ⟨g + 1, 1, none⟩ = some (.slice none 0 0) := by simp [World.cell?, b2]
 have e0 : w1.frozen? ⟨g + 1, 0, none⟩ = false := by simp [World.frozen?, b2]
 have e1 : w1.frozen? ⟨g + 1, 1, none⟩ = false := by simp [World.frozen?, b2]
 have H1 := Lib.hid (And.intro lo (And.intro x1 (And.intro f1 b2)))
 clear lo x1 f1 b2 c0 c1
 go_wp2_with fail
 refine bodyPost_ret (results_cell_row rfl _ _ (g + 1) 48 #[.slice la1 L.ev.length lc1, .slice la2 L.pr.length lc2] (0, 0) _ rfl (by simp [World.setCell, Array.getElem?_modify, H1.out.2.2.2]) Tryz.underlying48 rfl (by kernel_rfl)) rfl ?_
 obtain ⟨lo, x1, f1, b2⟩ := H1.out
 obtain ⟨l5, M5⟩ := lo.stored b2
 exact ⟨_, _, V', rfl, l5, (HW.out.2.2.1.trans x1).trans' M5 (fun q hq => .inr (by have h1 := HW.out.2.1; omega)), fun q hq => Nat.le_trans HW.out.2.2.1.size (f1 q hq)⟩
theorem ShIn.logIn {w : World} {z : ShV} {s : Shm} (h : ShIn w z s) : LogIn w z.hv z.pv z.V s.L :=
 h.log.in_ h.ok.evI (fun i hi => by
  have h1 := h.ok.prk _ (List.getElem_mem hi)
  have h2 := h.ok.ev
  rw [prn_eq hi]
  unfold prOk at h1
  rw [decide_eq_true_eq] at h1
  unfold I64
  omega)
theorem sh_small {s : Shm} (h : ShOk s) : Small s.L := ⟨h.ev, h.pr, fun i hi => by have := h.ls i hi; omega⟩
set_option maxRecDepth 100000 in
theorem shlog_any (w : World) (z : ShV) (s : Shm) (h : ShIn w z s) : Calls Tryz.prog 17 #[ptr z.g] w (LogPost s.L w) := by
 have hI := h.logIn
 have q1 := Sl.cells_eq hI.row
 have q2 := Sl.cells_eq hI.prow
 obtain ⟨_, _, _, c3, c4⟩ := h.cells
 obtain ⟨g, hg⟩ : ∃ g, g = z.g := ⟨_, rfl⟩
 obtain ⟨ve, hve⟩ : ∃ g, g = z.hv := ⟨_, rfl⟩
 obtain ⟨vp, hvp⟩ : ∃ g, g = z.pv := ⟨_, rfl⟩
 rw [← hg] at c3 c4 ⊢
 rw [← hve] at c3 q1 hI
 rw [← hvp] at c4 q2 hI
 obtain ⟨w0, hw0⟩ : ∃ w0, w0 = w.alloc (.cells #[.slice none 0 0, .slice none 0 0] 48) := ⟨_, rfl⟩
 obtain ⟨g2, hg2⟩ : ∃ g, g = w.heap.size := ⟨_, rfl⟩
 have x0 : Ext w w0 := by rw [hw0]; exact (Mod.refl _ _).alloc _
 have b0 : w0.heap[g2]? = some (.cells #[.slice none 0 0, .slice none 0 0] 48 (0, 0)) := by rw [hw0, hg2]; exact heap_alloc_new _ _
 have k3 := Ext.cell x0 c3
 have k4 := Ext.cell x0 c4
 have HW := Lib.hid (And.intro hw0 (And.intro hg2 (And.intro x0 b0)))
 have HL := Lib.hid (And.intro hI (And.intro (sh_small h.ok) h.ok.prk))
 clear hw0 hg2 x0 b0 h hI c3 c4 hg hve hvp
 go_enter Tryz.func17, Tryz.ntmps17
 go_upto_region 1 with fail
 rw [← HW.out.1, ← HW.out.2.1]
 go_wp2_with fail
 refine (evcopy_any _ ve vp z.V s.L (HL.out.1.ext HW.out.2.2.1) HL.out.2.1 HL.out.2.2).mono ?_
 rintro e w1 ⟨hv, pv, V', rfl, lo, x1, f1⟩
 obtain ⟨la1, lc1, hhv, -⟩ := lo.row.sl.shape
 obtain ⟨la2, lc2, hpv, -⟩ := lo.prow.sl.shape
 subst hhv hpv
 have b2 := x1.blk HW.out.2.2.2
 have d0 : w1.cell? ⟨g2, 0, none⟩ = some (.slice none 0 0) := by simp [World.cell?, b2]
 have d1 : w1.cell? ⟨g2, 1, none⟩ = some (.slice none 0 0) := by simp [World.cell?, b2]
 have e0 : w1.frozen? ⟨g2, 0, none⟩ = false := by simp [World.frozen?, b2]
 have e1 : w1.frozen? ⟨g2, 1, none⟩ = false := by simp [World.frozen?, b2]
 have H1 := Lib.hid (And.intro lo (And.intro x1 (And.intro f1 b2)))
 clear lo x1 f1 b2 k3 k4
 go_wp2_with fail
 refine bodyPost_ret (results_cell_row rfl _ _ g2 48 #[.slice la1 s.L.ev.length lc1, .slice la2 s.L.pr.length lc2] (0, 0) _ rfl (by simp [World.setCell, Array.getElem?_modify, H1.out.2.2.2]) Tryz.underlying48 rfl (by kernel_rfl)) rfl ?_
 obtain ⟨lo, x1, f1, b2⟩ := H1.out
 obtain ⟨l5, M5⟩ := lo.stored b2
 exact ⟨_, _, V', rfl, l5, (HW.out.2.2.1.trans x1).trans' M5 (fun q hq => .inr (by have h1 := HW.out.2.1; omega)), fun q hq => Nat.le_trans HW.out.2.2.1.size (f1 q hq)⟩
theorem shdrained_any (w : World) (e : Ev) (v : Vs) (h : EvAt w e v) : Calls Tryz.prog 101 #[evV e v] w fun r w' => r = .returned (.bool (drnB e)) ∧ Ext w w' := by
 obtain ⟨k1, k2, k3, t1, t2, t3⟩ := ev_facts h
 clear h
 unfold evV
 by_cases hk : e.kind = 0
 · have hb : (e.kind == 0) = true := by simpa using hk
   have HK := Lib.hid hk
   clear hk
   go_enter Tryz.func101, Tryz.ntmps101
   go_wp2
   go_ret
   exact ⟨ret_bool (by unfold drnB; rw [HK.out]; simp), (Mod.refl _ _).alloc _⟩
 · have hb : (e.kind == 0) = false := by simpa using hk
   have HK := Lib.hid hk
   clear hk
   go_enter Tryz.func101, Tryz.ntmps101
   go_wp2
   go_ret
   exact ⟨ret_bool (by unfold drnB; rw [decide_eq_false HK.out]; simp), (Mod.refl _ _).alloc _⟩
end Go.Proofs.YtbhocahmhmafmaaGreat
namespace Go.Proofs.YtbhocahmhmafmaaGreat
open Go.Ren Go.RowKit
set_option linter.unusedVariables false
structure NewRel (w : World) (s : Shm) (g : Nat) (m : Value) (U : Nat → Prop) (hv pv : Value) (V : Nat → Vs) (i : Nat) (wr : World) : Prop where
 ex : ∃ (qv : Value) (qs : Nat → Value) (SQ : Nat → Nat → Prop), wr.heap[g]? = some (.cells #[.int .i64 (s.n : Int), m, qv, hv, pv] 75 (0, 0)) ∧ Own wr 76 1 qv i ((List.range i).map qs) ∧
  (∀ j, j < i → QueueAt wr (qs j) s.room (quB s (j : Int)) (SQ j)) ∧ (∀ j k, j < i → SQ j k → k ≠ g ∧ qv.ownBlock ≠ some k ∧ ¬ U k ∧ ¬ LogFp hv pv V s.L.ev.length k ∧ w.heap.size ≤ k) ∧ (∀ j l k, j < i → l < i → j ≠ l → SQ j k → ¬ SQ l k) ∧ (∀ k, qv.ownBlock = some k → w.heap.size ≤ k ∧ ¬ U k) ∧ (i = 0 → qv = .slice none 0 0)
 bl : BlocksAt wr m s.M U
 lo : LogOwn wr hv pv V s.L
 md : Ext w wr
 fg : w.heap.size ≤ g ∧ ¬ U g
 fu : ∀ k, U k → w.heap.size ≤ k
 fl : ∀ k, LogFp hv pv V s.L.ev.length k → w.heap.size ≤ k ∧ ¬ U k
theorem LogOwn.apart_t {w : World} {hv pv : Value} {V : Nat → Vs} {L : Lg} (h : LogOwn w hv pv V L) {k : Nat} {cs : Array Value} {t : TypeId} (hb : w.heap[k]? = some (.cells cs t (0, 0))) (h1 : 70 ≠ t) (h2 : 112 ≠ t) (h3 : 5 ≠ t) (h4 : 3 ≠ t) : ¬ LogFp hv pv V L.ev.length k := fun hk => by
 rcases hk with hk | hk | ⟨i, hi, hk⟩
 · exact h.row.apart_obj hb h1 hk
 · exact h.prow.apart_obj hb h2 hk
 · exact (h.ev i hi).apart hb h3 h4 hk
theorem NewRel.push {w wr w1 w2 : World} {s : Shm} {g i pq : Nat} {m qv qv' hv pv : Value} {V : Nat → Vs} {U S : Nat → Prop} {qs : Nat → Value} {SQ : Nat → Nat → Prop} (h0 : wr.heap[g]? = some (.cells #[.int .i64 (s.n : Int), m, qv, hv, pv] 75 (0, 0))) (hr : Own wr 76 1 qv i ((List.range i).map qs))
 (hq : ∀ j, j < i → QueueAt wr (qs j) s.room (quB s (j : Int)) (SQ j)) (hf : ∀ j k, j < i → SQ j k → k ≠ g ∧ qv.ownBlock ≠ some k ∧ ¬ U k ∧ ¬ LogFp hv pv V s.L.ev.length k ∧ w.heap.size ≤ k) (hqq : ∀ j l k, j < i → l < i → j ≠ l → SQ j k → ¬ SQ l k) (hqf : ∀ k, qv.ownBlock = some k → w.heap.size ≤ k ∧ ¬ U k)
 (bl : BlocksAt wr m s.M U) (lo : LogOwn wr hv pv V s.L) (md : Ext w wr) (fg : w.heap.size ≤ g ∧ ¬ U g) (fu : ∀ k, U k → w.heap.size ≤ k) (fl : ∀ k, LogFp hv pv V s.L.ev.length k → w.heap.size ≤ k ∧ ¬ U k)
 (x1 : Ext wr w1) (Q1 : QueueAt w1 (ptr pq) s.room (quB s (i : Int)) S) (f1 : ∀ k, S k → wr.heap.size ≤ k) (M2 : Mod (fun q => qv.ownBlock = some q) w1 w2) (o2 : Own w2 76 1 qv' (i + 1) ((List.range i).map qs ++ [ptr pq])) (f2 : ∀ k, qv'.ownBlock = some k → qv.ownBlock = some k ∨ w1.heap.size ≤ k) :
 NewRel w s g m U hv pv V (i + 1) (w2.setCell ⟨g, 2, none⟩ qv') := by
 have z1 := x1.blk h0
 have r1 := hr.ext x1
 have z2 := M2.blk z1 (fun h => r1.apart_obj z1 (by decide) h)
 have Ms : Mod (fun q => q = g) w2 (w2.setCell ⟨g, 2, none⟩ qv') := Mod.setCell (F := fun q => q = g) (Mod.refl _ _) (.inl rfl) _
 have MM : Mod (fun q => q = g ∨ qv.ownBlock = some q) wr (w2.setCell ⟨g, 2, none⟩ qv') := ((x1.mod _).trans' M2 (fun q h => .inl (.inr h))).trans' Ms (fun q h => .inl (.inl h))
 have MM1 : Mod (fun q => q = g ∨ qv.ownBlock = some q) w1 (w2.setCell ⟨g, 2, none⟩ qv') := (M2.weak (fun q h => .inl (.inr h))).trans' Ms (fun q h => .inl (.inl h))
 have lap : ∀ k, LogFp hv pv V s.L.ev.length k → ¬ (k = g ∨ qv.ownBlock = some k) := fun k hk hh => by
  rcases hh with e | e
  · subst e; exact lo.apart_t h0 (by decide) (by decide) (by decide) (by decide) hk
  · obtain ⟨cs, hc⟩ := hr.ty e
    exact lo.apart_t hc (by decide) (by decide) (by decide) (by decide) hk
 refine ⟨⟨qv', fun j => if j = i then ptr pq else qs j, fun j => if j = i then S else SQ j, ?_, ?_, fun j hj => ?_, fun j k hj hk => ?_, fun j l k hj hl hne hk => ?_, fun k hk => ?_, fun h => by omega⟩, bl.mod MM (fun k hk hh => hh.elim (fun e => by subst e; exact fg.2 hk) (fun e => (hqf k e).2 hk)), lo.mod MM lap, md.trans' MM (fun q hq => .inr (hq.elim (fun e => by omega) (fun e => (hqf q e).1))), fg, fu, fl⟩
 · simp [World.setCell, Array.getElem?_modify, z2]
 · have e : (List.range (i + 1)).map (fun j => if j = i then ptr pq else qs j) = (List.range i).map qs ++ [ptr pq] := by
    rw [List.range_succ, List.map_append]
    congr 1
    · exact List.map_congr_left fun j hj => by rw [List.mem_range] at hj; rw [if_neg (by omega)]
    · simp
   rw [e]
   exact o2.mod Ms (fun k hk h => by subst h; exact o2.apart_obj z2 (by decide) hk)
 · by_cases e : j = i
   · simp only [e, if_true]
     refine Q1.mod MM1 (fun k hk hh => ?_)
     have h3 := f1 k hk
     rcases hh with e | e
     · have := lt_of_block h0; omega
     · have := hr.lt e; omega
   · simp only [e, if_false]
     refine (hq j (by omega)).mod MM (fun k hk hh => ?_)
     have h3 := hf j k (by omega) hk
     rcases hh with e | e
     · exact h3.1 e
     · exact h3.2.1 e
 · by_cases e : j = i
   · simp only [e, if_true] at hk
     have h3 := f1 k hk
     refine ⟨?_, fun h4 => ?_, fun h4 => ?_, fun h4 => ?_, Nat.le_trans md.size h3⟩
     · have := lt_of_block h0; omega
     · rcases f2 k h4 with h5 | h5
       · have := hr.lt h5; omega
       · have := Q1.lt hk; omega
     · have := bl.lt h4; omega
     · have := lo.lt h4; omega
   · simp only [e, if_false] at hk
     have h3 := hf j k (by omega) hk
     refine ⟨h3.1, fun h4 => ?_, h3.2.2⟩
     rcases f2 k h4 with h5 | h5
     · exact h3.2.1 h5
     · have h6 := (hq j (by omega)).lt hk; have h7 := x1.size; omega
 · have key : ∀ j, j < i → SQ j k → ¬ S k := fun j hj h3 h4 => by have h5 := (hq j hj).lt h3; have h6 := f1 k h4; omega
   by_cases e : j = i
   · have e2 : l ≠ i := by omega
     simp only [e, e2, if_true, if_false] at hk ⊢
     exact fun h3 => key l (by omega) h3 hk
   · by_cases e2 : l = i
     · simp only [e, e2, if_true, if_false] at hk ⊢
       exact key j (by omega) hk
     · simp only [e, e2, if_false] at hk ⊢
       exact hqq j l k (by omega) (by omega) hne hk
 · rcases f2 k hk with h3 | h3
   · exact hqf k h3
   · exact ⟨by have h4 := md.size; have h5 := x1.size; omega, fun h4 => by have h5 := bl.lt h4; have h6 := x1.size; omega⟩
theorem NewRel.done {w wr : World} {s : Shm} {g i : Nat} {m hv pv : Value} {V : Nat → Vs} {U : Nat → Prop} (h : NewRel w s g m U hv pv V i wr) (ok : ShOk s) (hi : 0 < s.room → i = s.n) (h0 : s.room = 0 → i = 0) : ∃ z, z.g = g ∧ ShIn wr z s ∧ ∀ k, z.Fp s k → w.heap.size ≤ k := by
 obtain ⟨⟨qv, qs, SQ, b, r, q, f, qq, qf, q0⟩, bl, lo, md, fg, fu, fl⟩ := h
 refine ⟨{ g := g, m := m, qv := qv, hv := hv, pv := pv, qs := qs, V := V, U := U, SQ := SQ }, rfl, ⟨b, bl, fun e => q0 (h0 e), fun e => by have r' := r; rw [hi e] at r'; exact r', fun e j hj => q j (by rw [hi e]; exact hj), lo, fun k hk hu => ?_, fun e j k hj hk => ?_, fun e j l k hj hl => qq j l k (by rw [hi e]; exact hj) (by rw [hi e]; exact hl), ok⟩, fun k hk => ?_⟩
 · rcases hk with h1 | h1 | h1
   · subst h1; exact fg.2 hu
   · exact (qf k h1).2 hu
   · exact (fl k h1).2 hu
 · have h3 := f j k (by rw [hi e]; exact hj) hk
   exact ⟨fun hl => by rcases hl with h4 | h4 | h4; exact h3.1 h4; exact h3.2.1 h4; exact h3.2.2.2.1 h4, h3.2.2.1⟩
 · rcases hk with (h1 | h1 | h1) | hk | ⟨e, j, hj, hk⟩
   · subst h1; exact fg.1
   · exact (qf k h1).1
   · exact (fl k h1).1
   · exact fu k hk
   · exact (f j k (by rw [hi e]; exact hj) hk).2.2.2.2
end Go.Proofs.YtbhocahmhmafmaaGreat
namespace Go.Proofs.YtbhocahmhmafmaaGreat
open Go.Ren Go.RowKit
set_option linter.unusedVariables false
theorem shlog_at {g : Nat} {w : World} {z : ShV} {s : Shm} (h : ShIn w z s) (hg : g = z.g) : Calls Tryz.prog 17 #[ptr g] w (LogPost s.L w) := by subst hg; exact shlog_any w z s h
def nQ (s : Shm) : Nat := if s.room = 0 then 0 else s.n
theorem ShIn.qsl {w : World} {z : ShV} {s : Shm} (h : ShIn w z s) : ∃ xs, Sl w z.qv 1 (nQ s) xs ∧ ∀ i, i < nQ s → w.cell? (at_ z.qv i) = some (z.qs i) := by
 unfold nQ
 rcases Nat.eq_zero_or_pos s.room with h0 | h0
 · rw [if_pos h0, h.noq h0]
   exact ⟨[], (Own.nil w 76 1).sl, fun i hi => absurd hi (Nat.not_lt_zero _)⟩
 · rw [if_neg (by omega)]
   exact ⟨_, (h.qrow h0).sl, fun i hi => h.qcell h0 hi⟩
theorem nQ_pos {s : Shm} {i : Nat} (h : i < nQ s) : 0 < s.room ∧ i < s.n := by unfold nQ at h; split at h <;> omega
set_option maxRecDepth 100000 in
set_option maxHeartbeats 1600000 in
theorem shcopy_any (w : World) (z : ShV) (s : Shm) (h : ShIn w z s) : Calls Tryz.prog 10 #[ptr z.g] w fun e w' => ∃ z', e = .returned (ptr z'.g) ∧ ShIn w' z' s ∧ Ext w w' ∧ ∀ k, z'.Fp s k → w.heap.size ≤ k := by
 obtain ⟨c0, c1, c2, _, _⟩ := h.cells
 obtain ⟨xs, hsl, hqc⟩ := h.qsl
 have l2 := hsl.run_len (P := Tryz.prog) IQS.und 3
 have HI := Lib.hid (hsl.run_idx (P := Tryz.prog) IQS.und IQS.size .i64)
 obtain ⟨g, hg⟩ : ∃ g, g = z.g := ⟨_, rfl⟩
 obtain ⟨m, hm⟩ : ∃ g, g = z.m := ⟨_, rfl⟩
 obtain ⟨qz, hqz⟩ : ∃ g, g = z.qv := ⟨_, rfl⟩
 obtain ⟨N, hN⟩ : ∃ n, n = nQ s := ⟨_, rfl⟩
 rw [← hg] at c0 c1 c2 ⊢
 rw [← hm] at c1
 rw [← hqz] at c2 l2 HI
 rw [← hN] at l2 HI
 have HB : Hid (∀ w', Ext w w' → BlocksAt w' m s.M z.U) := Lib.hid fun w' x => by rw [hm]; exact h.blks.ext x
 have KF : Hid (∀ w', Ext w w' → w'.cell? ⟨g, 0, none⟩ = some (.int .i64 (s.n : Int)) ∧ w'.cell? ⟨g, 1, none⟩ = some m) := Lib.hid fun w' x => ⟨Ext.cell x c0, Ext.cell x c1⟩
 have KQ : Hid (∀ w', Ext w w' → w'.cell? ⟨g, 2, none⟩ = some qz) := Lib.hid fun w' x => Ext.cell x c2
 have HQC : Hid (∀ i, i < N → w.cell? (at_ qz i) = some (z.qs i)) := Lib.hid (by rw [hN, hqz]; exact hqc)
 have HH := Lib.hid (And.intro h hg)
 have HN := Lib.hid hN
 clear h hg hm hqz hN hsl hqc c2
 go_enter Tryz.func10, Tryz.ntmps10
 go_upto_region 1 with fail
 refine wp_region_plan [(0, true), (1, true), (2, true), (3, true), (4, true), (5, true), (6, true), (7, true), (9, true), (8, false), (10, false), (11, true), (12, false), (13, true)] (fun w' => w'.cell? ⟨g, 0, none⟩ = some (.int .i64 (s.n : Int)) ∧ w'.cell? ⟨g, 1, none⟩ = some m) (by kernel_rfl) (by kernel_rfl) (by kernel_rfl) (fun _ d _ _ _ h => by cases d <;> exact h) (KF.out _ (Mod.drew (Mod.refl _ _))) ?_
 simp only [planL, getO]
 iterate 9 (refine plan_take (v := ?_) (by rfl) (fun wS hS => ?_) ?_; rotate_left; (focus ((try dsimp only at hS); go_simp; (try with_reducible rfl); done)); (try simp only [Act.put, List.setIfInBounds_toArray, List.set_cons_zero, List.set_cons_succ]))
 refine plan_call (fun K hK => ?_)
 go_simp
 go_at_call 34; refine (copy_any _ _ s.M z.U (HB.out _ (Mod.drew (Mod.refl _ _)))).mono ?_; rintro en v1 ⟨po, U', rfl, b1, x1, f1⟩; have X1 : Ext w v1 := Mod.trans (Mod.drew (Mod.refl _ _)) x1; have H1 := Lib.hid (And.intro b1 (And.intro X1 f1))
 refine hK.out _ _ (KF.out _ X1) ?_
 clear hK K
 (try simp only [Act.put, List.setIfInBounds_toArray, List.set_cons_zero, List.set_cons_succ])
 refine plan_call (fun K hK => ?_)
 go_simp
 go_at_call 17; refine (shlog_at (HH.out.1.ext X1) HH.out.2).mono ?_; rintro en v2 ⟨hv, pv, V', rfl, lo, x2, f2⟩; obtain ⟨la1, lc1, hhv, -⟩ := lo.row.sl.shape; obtain ⟨la2, lc2, hpv, -⟩ := lo.prow.sl.shape; subst hhv hpv; have X2 : Ext w v2 := X1.trans x2; have H2 := Lib.hid (And.intro lo (And.intro x2 (And.intro f2 X2)))
 refine hK.out _ _ (KF.out _ X2) ?_
 clear hK K
 (try simp only [Act.put, List.setIfInBounds_toArray, List.set_cons_zero, List.set_cons_succ])
 (refine plan_take (v := ?_) (by rfl) (fun wS hS => ?_) ?_; rotate_left; (focus ((try dsimp only at hS); go_simp; (try with_reducible rfl); done)); (try simp only [Act.put, List.setIfInBounds_toArray, List.set_cons_zero, List.set_cons_succ]))
 refine plan_call (fun K hK => ?_)
 go_simp
 skip
 refine hK.out _ _ (KF.out _ (X2.alloc _)) ?_
 clear hK K
 (try simp only [Act.put, List.setIfInBounds_toArray, List.set_cons_zero, List.set_cons_succ])
 (refine plan_take (v := ?_) (by rfl) (fun wS hS => ?_) ?_; rotate_left; (focus ((try dsimp only at hS); go_simp; (try with_reducible rfl); done)); (try simp only [Act.put, List.setIfInBounds_toArray, List.set_cons_zero, List.set_cons_succ]))
 refine plan_nil ?_
 obtain ⟨w4, hw4⟩ : ∃ W, W = v2.alloc (.cells #[.int .i64 (s.n : Int), .pointer (some ⟨po, 0, none⟩), .slice none 0 0, .slice la1 s.L.ev.length lc1, .slice la2 s.L.pr.length lc2] 75) := ⟨_, rfl⟩
 obtain ⟨gN, hgN⟩ : ∃ g, g = v2.heap.size := ⟨_, rfl⟩
 rw [← hw4, ← hgN]
 have x4 : Ext v2 w4 := by rw [hw4]; exact (Mod.refl _ _).alloc _
 have X4 : Ext w w4 := X2.trans x4
 have R0 : NewRel w s gN (.pointer (some ⟨po, 0, none⟩)) U' (.slice la1 s.L.ev.length lc1) (.slice la2 s.L.pr.length lc2) V' 0 w4 :=
  ⟨⟨.slice none 0 0, fun _ => undef, fun _ _ => False, by rw [hw4, hgN]; exact heap_alloc_new _ _, Own.nil _ _ _, fun j h => absurd h (Nat.not_lt_zero _), fun j k h => absurd h (Nat.not_lt_zero _), fun j l k h => absurd h (Nat.not_lt_zero _), fun k hk => (by cases hk), fun _ => rfl⟩, (H1.out.1.ext H2.out.2.1).ext x4, lo.ext x4, X4, ⟨by rw [hgN]; exact X2.size, fun hu => by have h1 := H1.out.1.lt hu; have h2 := x2.size; omega⟩, fun k hk => H1.out.2.2 k hk |> fun h => by have := (Mod.refl NoF w).size; exact h,
   fun k hk => ⟨by have h1 := f2 k hk; have h2 := X1.size; omega, fun hu => by have h1 := f2 k hk; have h2 := H1.out.1.lt hu; omega⟩⟩
 have cq := KQ.out _ X4
 have HR0 := Lib.hid R0
 have HX4 := Lib.hid X4
 clear hw4 hgN x4 X4 R0 lo x2 f2 X1 X2 b1 x1 f1 c0 c1
 go_wp2_with fail
 go_loopw [5, 24] (fun s5 s24 wr => ∃ i : Nat, i ≤ N ∧ s24 = .int .i64 (i : Int) ∧ NewRel w s gN (.pointer (some ⟨po, 0, none⟩)) U' (.slice la1 s.L.ev.length lc1) (.slice la2 s.L.pr.length lc2) V' i wr) (fun _ i _ => N - (intOf i).toNat)
 case atStart => exact ⟨0, Nat.zero_le _, rfl, HR0.out⟩
 case round =>
  obtain ⟨i, hi, rfl, hrel⟩ := hrel
  have HR := Lib.hid hrel
  clear hrel cq
  by_cases hlt : i < N
  · have hlt' : (i : Int) < (N : Int) := by omega
    have i1 := HI.out i hlt
    rw [Nat.mul_one] at i1
    obtain ⟨⟨qv, qs, SQ, b, r, q, f, qq, qf, q0⟩, bl, lo, md, fg, fu, fl⟩ := HR.out
    have cqi := Ext.cell md (HQC.out i hlt)
    obtain ⟨r0, rn⟩ := nQ_pos (show i < nQ s by have := HN.out; omega)
    have HQI : Hid (∀ w', Ext wr w' → QueueAt w' (z.qs i) s.room (quB s (i : Int)) (z.SQ i)) := Lib.hid fun w' x => (HH.out.1.qat r0 i rn).ext (md.trans x)
    have KM : Hid (∀ w', Mod (fun q => qv.ownBlock = some q) wr w' → w'.cell? ⟨gN, 2, none⟩ = some qv ∧ w'.frozen? ⟨gN, 2, none⟩ = false) := Lib.hid fun w' M => by
     have h5 := M.blk b (fun h => r.apart_obj b (by decide) h)
     exact ⟨by simp [World.cell?, h5], by simp [World.frozen?, h5]⟩
    have HF : Hid (∀ (w3 w2 : World) (pq : Nat) (S : Nat → Prop) (qv' : Value), Ext wr w3 → QueueAt w3 (ptr pq) s.room (quB s (i : Int)) S → (∀ k, S k → wr.heap.size ≤ k) → Mod (fun q => qv.ownBlock = some q) w3 w2 → Own w2 76 1 qv' (i + 1) ((List.range i).map qs ++ [ptr pq]) → (∀ k, qv'.ownBlock = some k → qv.ownBlock = some k ∨ w3.heap.size ≤ k) → NewRel w s gN (.pointer (some ⟨po, 0, none⟩)) U' (.slice la1 s.L.ev.length lc1) (.slice la2 s.L.pr.length lc2) V' (i + 1) (w2.setCell ⟨gN, 2, none⟩ qv')) :=
     Lib.hid fun w3 w2 pq S qv' x3 Q1 f3 M o f' => NewRel.push b r q f qq qf bl lo md fg fu fl x3 Q1 f3 M o f'
    have HO := Lib.hid r
    have hl64 : (i : Int) ≤ 64 := by have h1 := HH.out.1.ok.n1; omega
    clear b r q f qq qf q0 bl lo md fg fu fl r0 rn
    go_upto_region 5 with fail
    refine wp_region_planL [11] [(0, 3), (1, 3), (2, 3), (3, 3), (4, 0), (5, 3), (6, 1), (7, 1), (8, 1), (9, 3), (10, 3), (11, 2)] (fun w' => w'.cell? ⟨gN, 2, none⟩ = some qv) (by kernel_rfl) (by kernel_rfl) (by kernel_rfl) (fun _ d _ _ _ h => by cases d <;> exact h) ((KM.out _ (Mod.drew (Mod.refl _ _))).1) ?_
    simp only [planLL, getO]
    iterate 4 (refine planL_pure (v := ?_) (by rfl) (fun wS => ?_) ?_; rotate_left; (focus (go_simp; (try with_reducible rfl); done)); (try simp only [Act.put, List.setIfInBounds_toArray, List.set_cons_zero, List.set_cons_succ]))
    (refine planL_take (v := ?_) (by rfl) (fun wS hS => ?_) ?_; rotate_left; (focus ((try dsimp only at hS); go_simp; (try with_reducible rfl); done)); (try simp only [Act.put, List.setIfInBounds_toArray, List.set_cons_zero, List.set_cons_succ]))
    (refine planL_pure (v := ?_) (by rfl) (fun wS => ?_) ?_; rotate_left; (focus (go_simp; (try with_reducible rfl); done)); (try simp only [Act.put, List.setIfInBounds_toArray, List.set_cons_zero, List.set_cons_succ]))
    refine planL_call (fun K hK => ?_)
    go_simp
    go_at_call 35; refine (qcopy_any _ _ s.room (quB s (i : Int)) (z.SQ i) (HQI.out _ (Mod.drew (Mod.refl _ _)))).mono ?_; rintro en w3 ⟨pq, S', rfl, Q1, y3, f3⟩; have X3 : Ext wr w3 := Mod.trans (Mod.drew (Mod.refl _ _)) y3
    refine hK.out _ _ ((KM.out _ (X3.mod _)).1) ?_
    clear hK K
    (try simp only [Act.put, List.setIfInBounds_toArray, List.set_cons_zero, List.set_cons_succ])
    refine planL_call (fun K hK => ?_)
    go_simp
    skip
    refine hK.out _ _ ((KM.out _ (Ext.mod (X3.alloc _) _)).1) ?_
    clear hK K
    (try simp only [Act.put, List.setIfInBounds_toArray, List.set_cons_zero, List.set_cons_succ])
    refine planL_call (fun K hK => ?_)
    refine step_app IQS rfl (.tmp 32) (.tmp 35) rfl (HO.out.ext (X3.alloc _)) (built_sl (n := 1) (g := w3.heap.size) (e := 76) (cs := #[.pointer (some ⟨pq, 0, none⟩)]) (by rw [heap_alloc_if, if_pos rfl]) rfl (by simp only [maxLen]; omega)) (by intro x hx; rw [List.mem_singleton.1 hx]; rfl) (by simp [Act.eval]) (by simp [Act.eval]) (by omega) (by simp only [maxLen]; omega) ?_; intro qv9 w9 ol9 gr9 fr9 nn9; obtain ⟨la9, lc9, hlv9, _⟩ := ol9.sl.shape; subst hlv9; have M9 : Mod (fun q => qv.ownBlock = some q) w3 w9 := Mod.grown (Mod.alloc (Mod.refl _ _) _) gr9 (fun q h => .inl h); have MM : Mod (fun q => qv.ownBlock = some q) wr w9 := (X3.mod _).trans M9; obtain ⟨e2, en2⟩ := KM.out _ MM
    refine hK.out _ _ ((KM.out _ MM).1) ?_
    clear hK K
    (try simp only [Act.put, List.setIfInBounds_toArray, List.set_cons_zero, List.set_cons_succ])
    iterate 2 (refine planL_pure (v := ?_) (by rfl) (fun wS => ?_) ?_; rotate_left; (focus (go_simp; (try with_reducible rfl); done)); (try simp only [Act.put, List.setIfInBounds_toArray, List.set_cons_zero, List.set_cons_succ]))
    refine planL_late (fun K hK => ?_)
    go_simp
    refine hK.out _ _ ?_
    clear hK K
    (try simp only [Act.put, List.setIfInBounds_toArray, List.set_cons_zero, List.set_cons_succ])
    refine planL_nil ?_
    have F2 : ∀ k, (Value.slice la9 (i + 1) lc9).ownBlock = some k → qv.ownBlock = some k ∨ w3.heap.size ≤ k := fun k hk => (fr9 k hk).imp id (fun h => by (try simp only [World.size_alloc] at h); omega)
    have HX := Lib.hid (HF.out w3 w9 pq S' _ X3 Q1 f3 M9 ol9 F2)
    clear e2 en2 gr9 fr9 ol9 nn9 M9 MM F2 Q1 y3 f3 X3 i1 cqi
    go_wp2_with fail
    go_roundw
    case rel => exact ⟨i + 1, by omega, by go_num, HX.out⟩
    case measure => simp [intOf]; omega
  · have hlt' : ¬ (i : Int) < (N : Int) := by omega
    obtain rfl : i = N := by omega
    go_wp2_with fail
    go_ret
    obtain ⟨z', e1, h1, h2⟩ := HR.out.done HH.out.1.ok (fun h => by rw [HN.out]; unfold nQ; rw [if_neg (by omega)]) (fun h => by rw [HN.out]; unfold nQ; rw [if_pos h])
    exact ⟨z', by rw [e1]; rfl, h1, HR.out.md, h2⟩
end Go.Proofs.YtbhocahmhmafmaaGreat
namespace Go.Ren
set_option linter.unusedVariables false
theorem fin_n (s : Shm) : ∀ k, (shFin s k).n = s.n ∧ (shFin s k).room = s.room ∧ (shFin s k).L = s.L
 | 0 => ⟨rfl, rfl, rfl⟩
 | k + 1 => fin_n s k
theorem fin_ok {s : Shm} (h : ShOk s) : ∀ k, k ≤ s.n → ShOk (shFin s k)
 | 0, _ => h
 | k + 1, hk => (fin_ok h k (by omega)).drain (by rw [(fin_n s k).1]; omega)
end Go.Ren
namespace Go.Proofs.YtbhocahmhmafmaaGreat
open Go.Ren Go.RowKit
set_option linter.unusedVariables false
theorem shbytes_at {g : Nat} {w : World} {z : ShV} {s : Shm} (h : ShIn w z s) (hg : g = z.g) : Calls Tryz.prog 19 #[ptr g] w fun e w' => ∃ v V, e = .returned v ∧ RowsIn w' v V s.M.length (fun i => (blk s.M i).b) ∧ Ext w w' := by subst hg; exact shbytes_any w z s h
structure FreshSh (w wr : World) (g : Nat) (s : Shm) : Prop where
 ex : ∃ z, g = z.g ∧ ShIn wr z s ∧ ∀ k, z.Fp s k → w.heap.size ≤ k
 x : Ext w wr
theorem FreshSh.to {w wr w' : World} {g : Nat} {s s' : Shm} {z : ShV} (hg : g = z.g) (hf : ∀ k, z.Fp s k → w.heap.size ≤ k) (x : Ext w wr) (h : ShTo z s s' wr w') : FreshSh w w' g s' := by
 obtain ⟨z', e, h1, m, f⟩ := h
 exact ⟨⟨z', hg.trans e.symm, h1, fun k hk => (f k hk).elim (hf k) (fun h => Nat.le_trans x.size h)⟩, x.trans' m (fun q hq => .inr (hf q hq))⟩
def BytesPost (M : List Blk) (w : World) (e : Ending) (w' : World) : Prop := ∃ v V, e = .returned v ∧ RowsIn w' v V M.length (fun i => (blk M i).b) ∧ Ext w w'
set_option maxRecDepth 100000 in
theorem shfinal_any (w : World) (z : ShV) (s : Shm) (h : ShIn w z s) : Calls Tryz.prog 20 #[ptr z.g] w (BytesPost (shFin s s.n).M w) := by
 have HS := Lib.hid h
 clear h
 go_enter Tryz.func20, Tryz.ntmps20
 go_wp2_with fail
 refine (shcopy_any _ z s HS.out).mono ?_
 rintro e w1 ⟨z1, rfl, h1, x1, f1⟩
 obtain ⟨g, hg⟩ : ∃ g, g = z1.g := ⟨_, rfl⟩
 rw [← hg]
 have c0 := (h1.at_cells hg).1
 have H1 := Lib.hid (show FreshSh w w1 g s from ⟨⟨z1, hg, h1, f1⟩, x1⟩)
 clear h1 x1 f1 hg
 go_wp2_with fail
 go_loopw [4, 11] (fun s4 s11 wr => ∃ i : Nat, i ≤ s.n ∧ s11 = .int .i64 (i : Int) ∧ FreshSh w wr g (shFin s i)) (fun _ i _ => s.n - (intOf i).toNat)
 case atStart => exact ⟨0, Nat.zero_le _, rfl, H1.out⟩
 case round =>
  obtain ⟨i, hi, rfl, hrel⟩ := hrel
  have HR := Lib.hid hrel
  clear hrel c0
  by_cases hlt : i < s.n
  · have hlt' : (i : Int) < (s.n : Int) := by omega
    have hn64 : (s.n : Int) ≤ 64 := by have := HS.out.ok.n1; omega
    obtain ⟨⟨z2, g2, h2, f2⟩, x2⟩ := HR.out
    have H2 := Lib.hid (And.intro g2 (And.intro h2 (And.intro f2 x2)))
    clear g2 h2 f2 x2
    go_wp2_with fail
    refine (shdrain_at H2.out.1 H2.out.2.1 ⟨i, rfl, by rw [(fin_n s i).1]; exact hlt⟩).mono ?_
    rintro e w3 ⟨rfl, P⟩
    have HP := Lib.hid (FreshSh.to H2.out.1 H2.out.2.2.1 H2.out.2.2.2 P)
    clear P
    go_wp2_with fail
    go_roundw
    case rel => exact ⟨i + 1, by omega, by go_num, HP.out⟩
    case measure => simp [intOf]; omega
  · have hlt' : ¬ (i : Int) < (s.n : Int) := by omega
    obtain ⟨⟨z2, g2, h2, f2⟩, x2⟩ := HR.out
    have hin : i = s.n := by omega
    rw [hin] at h2 f2
    have H2 := Lib.hid (And.intro g2 (And.intro h2 (And.intro f2 x2)))
    clear g2 h2 f2 x2 hin
    go_wp2_with fail
    refine (shbytes_at H2.out.2.1 H2.out.1).mono ?_
    rintro e w3 ⟨v, V, rfl, r, x⟩
    have HX := Lib.hid (And.intro r x)
    clear r x
    go_wp2_with fail
    go_ret
    exact ⟨v, V, rfl, HX.out.1, H2.out.2.2.2.trans HX.out.2⟩
end Go.Proofs.YtbhocahmhmafmaaGreat
namespace Go.Proofs.YtbhocahmhmafmaaGreat
open Go.Ren Go.RowKit
set_option linter.unusedVariables false
def NewPost (n r : Int) (w : World) (e : Ending) (w' : World) : Prop :=
 ((1 ≤ n ∧ n ≤ 64 ∧ 0 ≤ r ∧ r ≤ 64) → ∃ z, e = .returned (.tuple #[ptr z.g, .int .i64 0]) ∧ ShIn w' z (shNew n.toNat r.toNat) ∧ Ext w w' ∧ ∀ k, z.Fp (shNew n.toNat r.toNat) k → w.heap.size ≤ k) ∧
 (¬ (1 ≤ n ∧ n ≤ 64 ∧ 0 ≤ r ∧ r ≤ 64) → e = .returned (.tuple #[.pointer none, .int .i64 1]) ∧ w = w')
set_option maxRecDepth 100000 in
set_option maxHeartbeats 1600000 in
theorem shnew_any (w : World) (n r : Int) : Calls Tryz.prog 7 #[.int .i64 n, .int .i64 r] w (NewPost n r w) := by
 by_cases hg : 1 ≤ n ∧ n ≤ 64 ∧ 0 ≤ r ∧ r ≤ 64
 case neg =>
  refine Calls.mono (R := fun e w' => e = .returned (.tuple #[.pointer none, .int .i64 1]) ∧ w = w') ?_ (fun e w' h => ⟨fun h' => absurd h' hg, fun _ => h⟩)
  rcases (by omega : n < 1 ∨ (¬ n < 1 ∧ 64 < n) ∨ (¬ n < 1 ∧ ¬ 64 < n ∧ r < 0) ∨ (¬ n < 1 ∧ ¬ 64 < n ∧ ¬ r < 0 ∧ 64 < r)) with z | ⟨z, z2⟩ | ⟨z, z2, z3⟩ | ⟨z, z2, z3, z4⟩
  all_goals
   clear hg
   go_enter Tryz.func7, Tryz.ntmps7
   go_wp2_with fail
   go_ret2
   exact ⟨rfl, rfl⟩
 case pos =>
  obtain ⟨N, rfl⟩ := Int.eq_ofNat_of_zero_le (show 0 ≤ n by omega)
  obtain ⟨R, rfl⟩ := Int.eq_ofNat_of_zero_le (show 0 ≤ r by omega)
  refine Calls.mono (R := fun e w' => ∃ z, e = .returned (.tuple #[ptr z.g, .int .i64 0]) ∧ ShIn w' z (shNew N R) ∧ Ext w w' ∧ ∀ k, z.Fp (shNew N R) k → w.heap.size ≤ k) ?_ (fun e w' h => ⟨fun _ => h, fun h' => absurd hg h'⟩)
  have z1 : ¬ (N : Int) < 1 := by omega
  have z2 : ¬ (64 : Int) < (N : Int) := by omega
  have z3 : ¬ (R : Int) < 0 := by omega
  have z4 : ¬ (64 : Int) < (R : Int) := by omega
  have HN : Hid ((1 ≤ N ∧ N ≤ 64) ∧ R ≤ 64) := Lib.hid (by omega)
  clear hg
  go_enter Tryz.func7, Tryz.ntmps7
  go_wp2_with fail
  refine (new_any _).mono ?_
  rintro e w1 ⟨pb, U, rfl, B1, x1, f1⟩
  obtain ⟨w2, hw2⟩ : ∃ W, W = w1.alloc (.cells #[.int .i64 (N : Int), .pointer (some ⟨pb, 0, none⟩), .slice none 0 0, .slice none 0 0, .slice none 0 0] 75) := ⟨_, rfl⟩
  obtain ⟨g, hg⟩ : ∃ g, g = w1.heap.size := ⟨_, rfl⟩
  have x2 : Ext w1 w2 := by rw [hw2]; exact (Mod.refl _ _).alloc _
  have R0 : NewRel w (shNew N R) g (.pointer (some ⟨pb, 0, none⟩)) U (.slice none 0 0) (.slice none 0 0) (fun _ => ⟨undef, undef, undef⟩) 0 w2 := ⟨⟨.slice none 0 0, fun _ => undef, fun _ _ => False, by rw [hw2, hg]; exact heap_alloc_new _ _, Own.nil _ _ _, fun j h => absurd h (Nat.not_lt_zero _), fun j k h => absurd h (Nat.not_lt_zero _), fun j l k h => absurd h (Nat.not_lt_zero _), fun k hk => (by cases hk), fun _ => rfl⟩, B1.ext x2, ⟨Own.nil _ _ _, fun i h => absurd h (Nat.not_lt_zero _), Own.nil _ _ _⟩, x1.trans x2, ⟨by rw [hg]; exact x1.size, fun hu => by have := B1.lt hu; omega⟩, f1, fun k hk => (by rcases hk with hk | hk | ⟨i, hi, _⟩; cases hk; cases hk; exact absurd hi (Nat.not_lt_zero _))⟩
  have HW := Lib.hid (And.intro hw2 hg)
  have H0 := Lib.hid R0
  clear hw2 hg x2 R0 B1 x1 f1
  by_cases hR : 0 < R
  case neg =>
   obtain rfl : R = 0 := by omega
   go_upto_region 4 with fail
   rw [← HW.out.1, ← HW.out.2]
   clear z1 z2 z3 z4 hR
   go_wp2_with fail
   go_ret2
   obtain ⟨z, e1, h1, h2⟩ := H0.out.done (ok_new HN.out.1 (by omega)) (fun h => absurd h (Nat.lt_irrefl _)) (fun _ => rfl)
   exact ⟨z, by rw [e1]; rfl, h1, H0.out.md, h2⟩
  case pos =>
   have hR' : (0 : Int) < (R : Int) := by omega
   go_upto_region 4 with fail
   rw [← HW.out.1, ← HW.out.2]
   clear z1 z2 z3 z4
   have HRP := Lib.hid hR
   clear hR
   go_wp2_with fail
   go_loopw [7, 8, 30] (fun s7 s8 s30 wr => ∃ i : Nat, i ≤ N ∧ s30 = .int .i64 (i : Int) ∧ NewRel w (shNew N R) g (.pointer (some ⟨pb, 0, none⟩)) U (.slice none 0 0) (.slice none 0 0) (fun _ => ⟨undef, undef, undef⟩) i wr) (fun _ _ i _ => N - (intOf i).toNat)
   case atStart => exact ⟨0, Nat.zero_le _, rfl, H0.out⟩
   case round =>
    obtain ⟨i, hi, rfl, hrel⟩ := hrel
    have HR := Lib.hid hrel
    clear hrel
    by_cases hlt : i < N
    · have hlt' : (i : Int) < (N : Int) := by omega
      go_wp2_with fail
      refine (qnew_any _ (R : Int)).mono ?_
      rintro e w3 ⟨hA, -⟩
      obtain ⟨pq, S, rfl, Q1, x3, f3⟩ := hA (by have h1 := HN.out; have h2 := HRP.out; omega)
      rw [Int.toNat_natCast] at Q1
      obtain ⟨⟨qv, qs, SQ, b, r, q, f, qq, qf, q0⟩, bl, lo, md, fg, fu, fl⟩ := HR.out
      have b3 := x3.blk b
      have c2 : w3.cell? ⟨g, 2, none⟩ = some qv := by simp [World.cell?, b3]
      have n2 : w3.frozen? ⟨g, 2, none⟩ = false := by simp [World.frozen?, b3]
      have KM : Hid (∀ w', Mod (fun q => qv.ownBlock = some q) w3 w' → w'.cell? ⟨g, 2, none⟩ = some qv ∧ w'.frozen? ⟨g, 2, none⟩ = false) := Lib.hid fun w' M => by
       have h5 := M.blk b3 (fun h => (r.ext x3).apart_obj b3 (by decide) h)
       exact ⟨by simp [World.cell?, h5], by simp [World.frozen?, h5]⟩
      have HF : Hid (∀ (w2 : World) (qv' : Value), Mod (fun q => qv.ownBlock = some q) w3 w2 → Own w2 76 1 qv' (i + 1) ((List.range i).map qs ++ [ptr pq]) → (∀ k, qv'.ownBlock = some k → qv.ownBlock = some k ∨ w3.heap.size ≤ k) → NewRel w (shNew N R) g (.pointer (some ⟨pb, 0, none⟩)) U (.slice none 0 0) (.slice none 0 0) (fun _ => ⟨undef, undef, undef⟩) (i + 1) (w2.setCell ⟨g, 2, none⟩ qv')) := Lib.hid fun w2 qv' M o f' => NewRel.push b r q f qq qf bl lo md fg fu fl x3 (by rw [new_quB]; exact Q1) f3 M o f'
      have HO := Lib.hid (r.ext x3)
      have hl64 : (i : Int) ≤ 64 := by have := HN.out; omega
      have one1 : ∀ x ∈ [Value.pointer (some ⟨pq, 0, none⟩)], x.oneCell' = true := by intro x hx; rw [List.mem_singleton.1 hx]; rfl
      have HB3 := Lib.hid b3
      clear b r q f qq qf q0 bl lo md fg fu fl Q1 x3 f3 hA b3
      go_wp2_with (at_builtin; refine wpList_app IQS rfl (.tmp 41) (.tmp 43) rfl (HO.out.ext ?_) (built_sl (n := 1) (g := w3.heap.size) (e := 76) (cs := #[.pointer (some ⟨pq, 0, none⟩)]) ?_ rfl (by simp only [maxLen]; omega)) one1 rfl rfl (by omega) (by simp only [maxLen]; omega) ?_; (repeat (first | exact Mod.refl _ _ | apply Mod.drew | apply Mod.alloc)); (rw [heap_alloc_if, if_pos rfl]); intro v' w' ho hgr hfr hnn; obtain ⟨la, lc, hlv, _⟩ := ho.sl.shape; subst hlv; have M4 : Mod (fun q => qv.ownBlock = some q) w3 w' := Mod.grown (by repeat (first | exact Mod.refl _ _ | apply Mod.drew | apply Mod.alloc)) hgr (fun q h => .inl h); obtain ⟨e2, en2⟩ := KM.out _ M4; have F2 : ∀ k, (Value.slice la (i + 1) lc).ownBlock = some k → qv.ownBlock = some k ∨ w3.heap.size ≤ k := fun k hk => (hfr k hk).imp id (fun h => by (try simp only [World.size_alloc] at h); omega); have HX := Lib.hid (And.intro M4 (And.intro ho F2)); clear M4 ho F2 hgr hfr hnn c2 n2)
      go_roundw
      case rel => exact ⟨_, _, .int .i64 ((i + 1 : Nat) : Int), ⟨i + 1, by omega, rfl, HF.out _ _ HX.out.1 HX.out.2.1 HX.out.2.2⟩, rfl, rfl, by go_num⟩
      case measure => simp [intOf]; omega
    · have hlt' : ¬ (i : Int) < (N : Int) := by omega
      obtain rfl : i = N := by omega
      go_wp2_with fail
      go_ret2
      obtain ⟨z, e1, h1, h2⟩ := HR.out.done (ok_new HN.out.1 HN.out.2) (fun _ => rfl) (fun h => by have h3 := HRP.out; have h4 : R = 0 := h; omega)
      exact ⟨z, by rw [e1]; rfl, h1, HR.out.md, h2⟩
end Go.Proofs.YtbhocahmhmafmaaGreat
