/-
  The document's relations in memory; the contract of renref14.empty. No condition.
-/
import Derived.Test.YthmkcgiiakinmaaJRvMay
import Derived.Test.YthmkcgiiakinmaaJRelAt
namespace Go.Proofs.Ythmkcgiiakinmaa
open Go.Ren Go.RowKit
set_option linter.unusedVariables false
theorem IRR : EInfo Try.prog 73 64 1 24 (.slice none 0 0) := ⟨Try.underlying73, by kernel_rfl, rfl, by decide⟩
theorem IBl : EInfo Try.prog 64 4 1 1 (.bool false) := ⟨Try.underlying64, by kernel_rfl, rfl, by decide⟩
def brow (n : Nat) (f : Nat → Bool) : List Value := (List.range n).map fun j => .bool (f j)
theorem brow_get {n j : Nat} (f : Nat → Bool) (h : j < n) : (brow n f)[j]? = some (.bool (f j)) := by simp [brow, h]
def updM (M : Nat → Nat → Bool) (a b : Nat) (x : Bool) : Nat → Nat → Bool := fun i j => if i = a ∧ j = b then x else M i j
theorem updM_same (M : Nat → Nat → Bool) (a b : Nat) (x : Bool) : updM M a b x a b = x := by simp [updM]
theorem updM_ne (M : Nat → Nat → Bool) {a b i j : Nat} (x : Bool) (h : ¬ (i = a ∧ j = b)) : updM M a b x i j = M i j := by simp [updM, h]
structure RRel (w : World) (rv : Value) (R : Nat → Value) (n : Nat) (M : Nat → Nat → Bool) : Prop where
  row : Own w 64 1 rv n ((List.range n).map R)
  cols : ∀ i, i < n → Own w 4 1 (R i) n (brow n (M i))
  inj : ∀ i j k, i < n → j < n → (R i).ownBlock = some k → (R j).ownBlock = some k → i = j
  le : n ≤ 64
def RRFp (rv : Value) (R : Nat → Value) (n k : Nat) : Prop := rv.ownBlock = some k ∨ ∃ i, i < n ∧ (R i).ownBlock = some k
theorem RRel.mod {F : Nat → Prop} {w w' : World} {n : Nat} {rv : Value} {R : Nat → Value} {M : Nat → Nat → Bool} (h : RRel w rv R n M) (m : Mod F w w') (hF : ∀ k, RRFp rv R n k → ¬ F k) : RRel w' rv R n M :=
  ⟨h.row.mod m (fun k hk => hF _ (.inl hk)), fun i hi => (h.cols i hi).mod m (fun k hk => hF _ (.inr ⟨i, hi, hk⟩)), h.inj, h.le⟩
theorem RRel.ext {w w' : World} {n : Nat} {rv : Value} {R : Nat → Value} {M : Nat → Nat → Bool} (h : RRel w rv R n M) (x : Ext w w') : RRel w' rv R n M := h.mod x fun _ _ h => h
theorem RRel.congr {w : World} {n : Nat} {rv : Value} {R : Nat → Value} {M M' : Nat → Nat → Bool} (h : RRel w rv R n M) (e : ∀ a b, a < n → b < n → M a b = M' a b) : RRel w rv R n M' :=
  ⟨h.row, fun i hi => by
    have : brow n (M i) = brow n (M' i) := List.map_congr_left fun j hj => by rw [e i j hi (List.mem_range.1 hj)]
    rw [← this]; exact h.cols i hi, h.inj, h.le⟩
theorem brow_set {n b : Nat} (f : Nat → Bool) (x : Bool) (hb : b < n) : (brow n f).set b (.bool x) = brow n (fun j => if j = b then x else f j) := by
  apply List.ext_getElem?
  intro j
  rw [List.getElem?_set]
  by_cases e : b = j
  · subst e; simp [brow, hb]
  · by_cases hj : j < n
    · simp [brow, hj, e, show ¬ j = b from fun h => e h.symm]
    · simp [brow, hj, e]
theorem RRel.put {w : World} {n : Nat} {rv : Value} {R : Nat → Value} {M : Nat → Nat → Bool} (h : RRel w rv R n M) {a b : Nat} (ha : a < n) (hb : b < n) (x : Bool) :
    RRel (w.setCell (at_ (R a) b) (.bool x)) rv R n (updM M a b x) ∧ Mod (fun k => (R a).ownBlock = some k) w (w.setCell (at_ (R a) b) (.bool x)) := by
  have hn : 0 < n := by omega
  have hc := h.cols a ha
  have M0 : Mod (fun k => (R a).ownBlock = some k) w (w.setCell (at_ (R a) b) (.bool x)) := Mod.setCell (F := fun k => (R a).ownBlock = some k) (Mod.refl _ _) (.inl (hc.at_block hn b)) _
  refine ⟨⟨h.row.mod M0 (fun k hk hl => h.row.apart hc (by decide) hk hl), fun i hi => ?_, h.inj, h.le⟩, M0⟩
  by_cases e : i = a
  · subst e
    have hs := hc.set hn b (.bool x)
    rw [brow_set _ x hb] at hs
    have e2 : brow n (fun j => if j = b then x else M i j) = brow n (updM M i b x i) := List.map_congr_left fun j hj => by simp [updM]
    rw [e2] at hs
    exact hs
  · have e2 : updM M a b x i = M i := by funext j; simp [updM, e]
    rw [e2]
    exact (h.cols i hi).mod M0 (fun k hk hl => e (h.inj i a k hi ha hk hl))
theorem RRel.facts {w : World} {n : Nat} {rv : Value} {R : Nat → Value} {M : Nat → Nat → Bool} (h : RRel w rv R n M) {a b : Nat} (ha : a < n) (hb : b < n) :
    w.cell? (at_ rv a) = some (R a) ∧ w.cell? (at_ (R a) b) = some (.bool (M a b)) ∧ w.frozen? (at_ (R a) b) = false :=
  ⟨h.row.sl.cell a _ (by simp [ha]), (h.cols a ha).sl.cell b _ (brow_get _ hb), (h.cols a ha).frozen b (by omega)⟩
theorem RRel.idx {w : World} {n : Nat} {rv : Value} {R : Nat → Value} {M : Nat → Nat → Bool} (h : RRel w rv R n M) {a b : Nat} (ha : a < n) (hb : b < n) :
    (∀ w', (Instr.indexAt 73 rv (.int .i64 (a : Int))).run Try.prog w' = .ok (.pointer (some (at_ rv a))) w') ∧
    (∀ w', (Instr.indexAt 64 (R a) (.int .i64 (b : Int))).run Try.prog w' = .ok (.pointer (some (at_ (R a) b))) w') := by
  have h1 := h.row.sl.run_idx (P := Try.prog) IRR.und IRR.size .i64 a ha
  have h2 := (h.cols a ha).sl.run_idx (P := Try.prog) IBl.und IBl.size .i64 b hb
  simp only [Nat.mul_one] at h1 h2
  exact ⟨h1, h2⟩
theorem RRel.len {w : World} {n : Nat} {rv : Value} {R : Nat → Value} {M : Nat → Nat → Bool} (h : RRel w rv R n M) : ∀ w', (Builtin.len_ #[73] 3 #[rv]).run Try.prog w' = .ok (.int .i64 n) w' :=
  h.row.sl.run_len (P := Try.prog) IRR.und 3
/-- While a relation is built: it lies behind w0. -/
structure RRLoop (w0 : World) (rv : Value) (R : Nat → Value) (n : Nat) (M : Nat → Nat → Bool) (wr : World) : Prop where
  is : RRel wr rv R n M
  x : Ext w0 wr
  fr : ∀ k, RRFp rv R n k → w0.heap.size ≤ k
theorem RRLoop.congr {w0 wr : World} {n : Nat} {rv : Value} {R : Nat → Value} {M M' : Nat → Nat → Bool} (h : RRLoop w0 rv R n M wr) (e : ∀ a b, a < n → b < n → M a b = M' a b) : RRLoop w0 rv R n M' wr := ⟨h.is.congr e, h.x, h.fr⟩
theorem RRLoop.ext {w0 wr w' : World} {n : Nat} {rv : Value} {R : Nat → Value} {M : Nat → Nat → Bool} (h : RRLoop w0 rv R n M wr) (x : Ext wr w') : RRLoop w0 rv R n M w' := ⟨h.is.ext x, h.x.trans x, h.fr⟩
theorem RRLoop.back {w1 w0 wr : World} {n : Nat} {rv : Value} {R : Nat → Value} {M : Nat → Nat → Bool} (h : RRLoop w0 rv R n M wr) (x : Ext w1 w0) : RRLoop w1 rv R n M wr := ⟨h.is, x.trans h.x, fun k hk => Nat.le_trans x.size (h.fr k hk)⟩
theorem RRLoop.put {w0 wr : World} {n : Nat} {rv : Value} {R : Nat → Value} {M : Nat → Nat → Bool} (h : RRLoop w0 rv R n M wr) {a b : Nat} (ha : a < n) (hb : b < n) (x : Bool) : RRLoop w0 rv R n (updM M a b x) (wr.setCell (at_ (R a) b) (.bool x)) := by
  have h1 := h.is.put ha hb x
  exact ⟨h1.1, h.x.trans' h1.2 (fun k hk => .inr (h.fr k (.inr ⟨a, ha, hk⟩))), h.fr⟩
/-- A block of another type is no part of a relation. -/
theorem RRLoop.apart {w0 wr : World} {n : Nat} {rv : Value} {R : Nat → Value} {M : Nat → Nat → Bool} (h : RRLoop w0 rv R n M wr) {k : Nat} (hk : k < w0.heap.size) : ¬ RRFp rv R n k := fun h1 => by have := h.fr k h1; omega
def RRPost (n : Nat) (M : Nat → Nat → Bool) (w : World) (e : Ending) (w' : World) : Prop := ∃ rv R, e = .returned rv ∧ RRLoop w rv R n M w'
theorem RRPost.nil (M : Nat → Nat → Bool) {w w' : World} (x : Ext w w') : RRPost 0 M w (.returned (.slice none 0 0)) w' :=
  ⟨_, fun _ => .slice none 0 0, rfl, ⟨⟨Own.nil _ _ _, fun i hi => absurd hi (Nat.not_lt_zero _), fun i j k hi => absurd hi (Nat.not_lt_zero _), by decide⟩, x, fun k hk => by rcases hk with hk | ⟨i, hi, _⟩; cases hk; omega⟩⟩
def rowz2 (R : Nat → Value) (i j : Nat) : Value := if j < i then R j else .slice none 0 0
def updV (R : Nat → Value) (a : Nat) (v : Value) : Nat → Value := fun i => if i = a then v else R i
structure EmptyRR (w0 : World) (rv : Value) (n i : Nat) (wr : World) : Prop where
  ex : ∃ R : Nat → Value, Own wr 64 1 rv n ((List.range n).map (rowz2 R i)) ∧ (∀ j, j < i → Own wr 4 1 (R j) n (brow n (fun _ => false))) ∧ (∀ j k b, j < i → k < i → (R j).ownBlock = some b → (R k).ownBlock = some b → j = k) ∧ ∀ j b, j < i → (R j).ownBlock = some b → w0.heap.size ≤ b
  md : Mod (fun k => rv.ownBlock = some k) w0 wr
theorem range_map_set2 {f g : Nat → Value} {n i : Nat} (v : Value) (hi : i < n) (h : ∀ j, j < n → j ≠ i → f j = g j) (hv : g i = v) : ((List.range n).map f).set i v = (List.range n).map g := by
  apply List.ext_getElem?
  intro j
  rw [List.getElem?_set]
  by_cases e : i = j
  · subst e; simp [hi, hv]
  · simp only [e, if_false, List.getElem?_map]
    by_cases hj : j < n
    · simp [List.getElem?_range hj, h j hj (Ne.symm e)]
    · simp [List.getElem?_eq_none (show (List.range n).length ≤ j by simp; omega)]
theorem EmptyRR.step {w0 wr : World} {rv : Value} {n i : Nat} (h : EmptyRR w0 rv n i wr) (hi : i < n) (hn : n ≤ 64) :
    EmptyRR w0 rv n (i + 1) ((wr.alloc (.cells (madeCells #[.bool false] n) 4)).setCell (at_ rv i) (.slice (some ⟨wr.heap.size, 0, none⟩) n n)) := by
  obtain ⟨⟨R, ho, hz, hinj, hfr⟩, md⟩ := h
  obtain ⟨w8, hw8⟩ : ∃ x, x = wr.alloc (.cells (madeCells #[.bool false] n) 4) := ⟨_, rfl⟩
  obtain ⟨g8, hg8⟩ : ∃ x, x = wr.heap.size := ⟨_, rfl⟩
  rw [← hw8, ← hg8]
  have x8 : Ext wr w8 := by rw [hw8]; exact (Mod.refl _ _).alloc _
  have b8 : w8.heap[g8]? = some (.cells (madeCells #[.bool false] n) 4 (0, 0)) := by rw [hw8, hg8]; exact heap_alloc_new _ _
  have o8 := ho.ext x8
  have hn0 : 0 < n := by omega
  have os := o8.set hn0 i (.slice (some ⟨g8, 0, none⟩) n n)
  have M8 : Mod (fun k => rv.ownBlock = some k) w8 (w8.setCell (at_ rv i) (.slice (some ⟨g8, 0, none⟩) n n)) := Mod.setCell (F := fun k => rv.ownBlock = some k) (Mod.refl _ _) (.inl (o8.at_block hn0 i)) _
  have r8 : Own w8 4 1 (.slice (some ⟨g8, 0, none⟩) n n) n (brow n (fun _ => false)) := by
    have := Own.made_at b8 (by simp only [maxLen]; omega)
    have e : brow n (fun _ => false) = List.replicate n (.bool false) := by
      apply List.ext_getElem?
      intro j
      by_cases hj : j < n
      · simp [brow, hj]
      · simp [brow, hj]
    rw [e]; exact this
  have hrl : ∀ j b, j < i → (R j).ownBlock = some b → b < wr.heap.size := fun j b hj hb => (hz j hj).lt hb
  have ei : updV R i (.slice (some ⟨g8, 0, none⟩) n n) i = .slice (some ⟨g8, 0, none⟩) n n := by simp [updV]
  have ej : ∀ j, j < i → updV R i (.slice (some ⟨g8, 0, none⟩) n n) j = R j := fun j hj => by simp [updV, show j ≠ i by omega]
  have hg : ∀ b, (Value.slice (some ⟨g8, 0, none⟩) n n).ownBlock = some b → b = g8 := fun b hb => by simp [Value.ownBlock] at hb; exact hb.symm
  refine ⟨⟨updV R i (.slice (some ⟨g8, 0, none⟩) n n), ?_, fun j hj => ?_, fun j k b hj hk h1 h2 => ?_, fun j b hj h1 => ?_⟩, (md.ext x8).trans M8⟩
  · rw [← range_map_set2 (f := rowz2 R i) (i := i) (.slice (some ⟨g8, 0, none⟩) n n) hi (fun j hj hne => ?_) (by simp [rowz2, ei])]
    · exact os
    · by_cases h1 : j < i
      · simp [rowz2, h1, show j < i + 1 by omega, ej j h1]
      · simp [rowz2, h1, show ¬ j < i + 1 by omega]
  · by_cases e0 : j = i
    · subst e0
      rw [ei]
      exact r8.mod M8 (fun k hk hl => o8.apart r8 (by decide) hl hk)
    · have hji : j < i := by omega
      rw [ej j hji]
      have h9 := (hz j hji).ext x8
      exact h9.mod M8 (fun k hk hl => o8.apart h9 (by decide) hl hk)
  · by_cases e1 : j = i
    · by_cases e2 : k = i
      · omega
      · subst e1
        rw [ei] at h1
        rw [ej k (by omega)] at h2
        have := hg b h1; have := hrl k b (by omega) h2; omega
    · by_cases e2 : k = i
      · subst e2
        rw [ei] at h2
        rw [ej j (by omega)] at h1
        have := hg b h2; have := hrl j b (by omega) h1; omega
      · rw [ej j (by omega)] at h1
        rw [ej k (by omega)] at h2
        exact hinj j k b (by omega) (by omega) h1 h2
  · by_cases e1 : j = i
    · subst e1
      rw [ei] at h1
      have := hg b h1; have := md.size; omega
    · rw [ej j (by omega)] at h1
      exact hfr j b (by omega) h1
set_option maxRecDepth 100000 in
set_option maxHeartbeats 800000 in
theorem rrempty_any (w : World) (n : Nat) (hn : n ≤ 64) :
    Calls Try.prog 109 #[.int .i64 (n : Int)] w (RRPost n (fun _ _ => false) w) := by
  have m1 := run_make_row' (P := Try.prog) 73 64 (.slice none 0 0) 24 IRR.und IRR.info rfl .i64 .i64 n (by omega) (by omega)
  have m2 := run_make_row' (P := Try.prog) 64 4 (.bool false) 1 IBl.und IBl.info rfl .i64 .i64 n (by omega) (by omega)
  have HN := Lib.hid hn
  obtain ⟨w0, hw0⟩ : ∃ w0, w0 = w.alloc (.cells (madeCells #[.slice none 0 0] n) 64) := ⟨_, rfl⟩
  obtain ⟨rv, hrv⟩ : ∃ rv : Value, rv = .slice (some ⟨w.heap.size, 0, none⟩) n n := ⟨_, rfl⟩
  have x0 : Ext w w0 := by rw [hw0]; exact (Mod.refl _ _).alloc _
  have o0 : Own w0 64 1 rv n ((List.range n).map (rowz2 (fun _ => .slice none 0 0) 0)) := by
    have h1 : w0.heap[w.heap.size]? = some (.cells (madeCells #[.slice none 0 0] n) 64 (0, 0)) := by rw [hw0]; exact heap_alloc_new _ _
    have h2 := Own.made_at h1 (by simp [maxLen]; omega)
    rw [hrv]
    have e : (List.range n).map (rowz2 (fun _ => .slice none 0 0) 0) = List.replicate n (.slice none 0 0) := by
      apply List.ext_getElem?
      intro j
      by_cases hj : j < n
      · simp [hj, rowz2]
      · simp [hj]
    rw [e]; exact h2
  have R0 : Hid (EmptyRR w0 rv n 0 w0) := Lib.hid ⟨⟨fun _ => .slice none 0 0, o0, fun j hj => absurd hj (Nat.not_lt_zero _), fun j k b hj => absurd hj (Nat.not_lt_zero _), fun j b hj => absurd hj (Nat.not_lt_zero _)⟩, Mod.refl _ _⟩
  have hrb : rv.ownBlock = some w.heap.size := by rw [hrv]; rfl
  have HW := Lib.hid (And.intro hw0 (And.intro hrv (And.intro x0 hrb)))
  have I0 := Lib.hid (o0.sl.run_idx (P := Try.prog) IRR.und IRR.size .i64)
  clear hw0 hrv x0 o0 hrb
  go_enter Try.func109, Try.ntmps109
  go_upto_region 2 with fail
  rw [← HW.out.1, ← HW.out.2.1]
  clear m1
  go_wp2_with fail
  go_loopw [4] (fun s15 wr => ∃ i : Nat, i ≤ n ∧ s15 = .int .i64 (i : Int) ∧ EmptyRR w0 rv n i wr) (fun s _ => n - (intOf s).toNat)
  case atStart => exact ⟨0, Nat.zero_le _, rfl, R0.out⟩
  case round =>
    obtain ⟨i, hi, rfl, hem⟩ := hrel
    by_cases hlt : i < n
    · have hlt' : (i : Int) < (n : Int) := by omega
      have i0 := I0.out i hlt
      simp only [Nat.mul_one] at i0
      have H1 := Lib.hid (hem.step hlt HN.out)
      obtain ⟨R, ho, -⟩ := hem.ex
      have o8 := ho.ext ((Mod.refl _ _).alloc (.cells (madeCells #[.bool false] n) 4))
      have f8 := o8.frozen i (by omega)
      have c8 := o8.sl.cell i (.slice none 0 0) (by simp [hlt, rowz2])
      clear hem ho o8
      go_wp2_with fail
      go_roundw
      case rel => exact ⟨i + 1, by omega, by go_num, H1.out⟩
      case measure => simp [intOf]; omega
    · have hlt' : ¬ (i : Int) < (n : Int) := by omega
      obtain rfl : i = n := by omega
      have HE := Lib.hid hem
      clear hem
      go_wp2_with fail
      go_ret
      obtain ⟨⟨R, ho, hz, hinj, hfr⟩, md⟩ := HE.out
      have hrb := HW.out.2.2.2
      refine ⟨rv, R, rfl, ⟨⟨?_, hz, hinj, HN.out⟩, HW.out.2.2.1.trans' md (fun k hk => .inr (by rw [hrb] at hk; simp at hk; omega)), fun k hk => ?_⟩⟩
      · have e : (List.range i).map (rowz2 R i) = (List.range i).map R := List.map_congr_left fun j hj => by simp [rowz2, List.mem_range.1 hj]
        rw [← e]; exact ho
      · rcases hk with h | ⟨j, hj, h⟩
        · rw [hrb] at h; simp at h; omega
        · have := hfr j k hj h; have := HW.out.2.2.1.size; omega
end Go.Proofs.Ythmkcgiiakinmaa
