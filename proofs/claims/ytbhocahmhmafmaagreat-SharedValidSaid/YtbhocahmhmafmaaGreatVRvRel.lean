/-
  The document's relations in memory; the contract of renref14.empty. No condition. The contract of renref14.From. No condition. Two boxes with an event of the document each. No condition.
-/
import Derived.Test.YtbhocahmhmafmaaGreatVRvRead
import Derived.Test.YtbhocahmhmafmaaGreatVRelAt
import Derived.Test.YtbhocahmhmafmaaGreatVRelTool
namespace Go.Proofs.YtbhocahmhmafmaaGreat
open Go.Ren Go.RowKit
set_option linter.unusedVariables false
theorem IRR : EInfo Tryz.prog 178 180 1 24 (.slice none 0 0) := ⟨Tryz.underlying178, by kernel_rfl, rfl, by decide⟩
theorem IBl : EInfo Tryz.prog 180 4 1 1 (.bool false) := ⟨Tryz.underlying180, by kernel_rfl, rfl, by decide⟩
def brow (n : Nat) (f : Nat → Bool) : List Value := (List.range n).map fun j => .bool (f j)
theorem brow_get {n j : Nat} (f : Nat → Bool) (h : j < n) : (brow n f)[j]? = some (.bool (f j)) := by simp [brow, h]
def updM (M : Nat → Nat → Bool) (a b : Nat) (x : Bool) : Nat → Nat → Bool := fun i j => if i = a ∧ j = b then x else M i j
structure RRel (w : World) (rv : Value) (R : Nat → Value) (n : Nat) (M : Nat → Nat → Bool) : Prop where
 row : Own w 180 1 rv n ((List.range n).map R)
 cols : ∀ i, i < n → Own w 4 1 (R i) n (brow n (M i))
 inj : ∀ i j k, i < n → j < n → (R i).ownBlock = some k → (R j).ownBlock = some k → i = j
 le : n ≤ 64
def RRFp (rv : Value) (R : Nat → Value) (n k : Nat) : Prop := rv.ownBlock = some k ∨ ∃ i, i < n ∧ (R i).ownBlock = some k
theorem RRel.mod {F : Nat → Prop} {w w' : World} {n : Nat} {rv : Value} {R : Nat → Value} {M : Nat → Nat → Bool} (h : RRel w rv R n M) (m : Mod F w w') (hF : ∀ k, RRFp rv R n k → ¬ F k) : RRel w' rv R n M :=
 ⟨h.row.mod m (fun k hk => hF _ (.inl hk)), fun i hi => (h.cols i hi).mod m (fun k hk => hF _ (.inr ⟨i, hi, hk⟩)), h.inj, h.le⟩
theorem RRel.ext {w w' : World} {n : Nat} {rv : Value} {R : Nat → Value} {M : Nat → Nat → Bool} (h : RRel w rv R n M) (x : Ext w w') : RRel w' rv R n M := h.mod x fun _ _ h => h
theorem RRel.congr {w : World} {n : Nat} {rv : Value} {R : Nat → Value} {M M' : Nat → Nat → Bool} (h : RRel w rv R n M) (e : ∀ a b, a < n → b < n → M a b = M' a b) : RRel w rv R n M' :=
 ⟨h.row, fun i hi => by
  have : brow n (M i) = brow n (M' i) := List.map_congr_left fun j hj => by rw [e i j hi (List.mem_range.1 hj)]
  rw [← this]; exact h.cols i hi, h.inj, h.le⟩
theorem brow_set {n b : Nat} (f : Nat → Bool) (x : Bool) (hb : b < n) : (brow n f).set b (.bool x) = brow n (fun j => if j = b then x else f j) := by
 apply List.ext_getElem?
 intro j
 rw [List.getElem?_set]
 by_cases e : b = j
 · subst e; simp [brow, hb]
 · by_cases hj : j < n
   · simp [brow, hj, e, show ¬ j = b from fun h => e h.symm]
   · simp [brow, hj, e]
theorem RRel.put {w : World} {n : Nat} {rv : Value} {R : Nat → Value} {M : Nat → Nat → Bool} (h : RRel w rv R n M) {a b : Nat} (ha : a < n) (hb : b < n) (x : Bool) :
 RRel (w.setCell (at_ (R a) b) (.bool x)) rv R n (updM M a b x) ∧ Mod (fun k => (R a).ownBlock = some k) w (w.setCell (at_ (R a) b) (.bool x)) := by
 have hn : 0 < n := by omega
 have hc := h.cols a ha
 have M0 : Mod (fun k => (R a).ownBlock = some k) w (w.setCell (at_ (R a) b) (.bool x)) := Mod.setCell (F := fun k => (R a).ownBlock = some k) (Mod.refl _ _) (.inl (hc.at_block hn b)) _
 refine ⟨⟨h.row.mod M0 (fun k hk hl => h.row.apart hc (by decide) hk hl), fun i hi => ?_, h.inj, h.le⟩, M0⟩
 by_cases e : i = a
 · subst e
   have hs := hc.set hn b (.bool x)
   rw [brow_set _ x hb] at hs
   have e2 : brow n (fun j => if j = b then x else M i j) = brow n (updM M i b x i) := List.map_congr_left fun j hj => by simp [updM]
   rw [e2] at hs
   exact hs
 · have e2 : updM M a b x i = M i := by funext j; simp [updM, e]
   rw [e2]
   exact (h.cols i hi).mod M0 (fun k hk hl => e (h.inj i a k hi ha hk hl))
theorem RRel.facts {w : World} {n : Nat} {rv : Value} {R : Nat → Value} {M : Nat → Nat → Bool} (h : RRel w rv R n M) {a b : Nat} (ha : a < n) (hb : b < n) :
 w.cell? (at_ rv a) = some (R a) ∧ w.cell? (at_ (R a) b) = some (.bool (M a b)) ∧ w.frozen? (at_ (R a) b) = false :=
 ⟨h.row.sl.cell a _ (by simp [ha]), (h.cols a ha).sl.cell b _ (brow_get _ hb), (h.cols a ha).frozen b (by omega)⟩
theorem RRel.idx {w : World} {n : Nat} {rv : Value} {R : Nat → Value} {M : Nat → Nat → Bool} (h : RRel w rv R n M) {a b : Nat} (ha : a < n) (hb : b < n) :
 (∀ w', (Instr.indexAt 178 rv (.int .i64 (a : Int))).run Tryz.prog w' = .ok (.pointer (some (at_ rv a))) w') ∧
 (∀ w', (Instr.indexAt 180 (R a) (.int .i64 (b : Int))).run Tryz.prog w' = .ok (.pointer (some (at_ (R a) b))) w') := by
 have h1 := h.row.sl.run_idx (P := Tryz.prog) IRR.und IRR.size .i64 a ha
 have h2 := (h.cols a ha).sl.run_idx (P := Tryz.prog) IBl.und IBl.size .i64 b hb
 simp only [Nat.mul_one] at h1 h2
 exact ⟨h1, h2⟩
theorem RRel.len {w : World} {n : Nat} {rv : Value} {R : Nat → Value} {M : Nat → Nat → Bool} (h : RRel w rv R n M) : ∀ w', (Builtin.len_ #[178] 3 #[rv]).run Tryz.prog w' = .ok (.int .i64 n) w' :=
 h.row.sl.run_len (P := Tryz.prog) IRR.und 3
structure RRLoop (w0 : World) (rv : Value) (R : Nat → Value) (n : Nat) (M : Nat → Nat → Bool) (wr : World) : Prop where
 is : RRel wr rv R n M
 x : Ext w0 wr
 fr : ∀ k, RRFp rv R n k → w0.heap.size ≤ k
theorem RRLoop.congr {w0 wr : World} {n : Nat} {rv : Value} {R : Nat → Value} {M M' : Nat → Nat → Bool} (h : RRLoop w0 rv R n M wr) (e : ∀ a b, a < n → b < n → M a b = M' a b) : RRLoop w0 rv R n M' wr := ⟨h.is.congr e, h.x, h.fr⟩
theorem RRLoop.ext {w0 wr w' : World} {n : Nat} {rv : Value} {R : Nat → Value} {M : Nat → Nat → Bool} (h : RRLoop w0 rv R n M wr) (x : Ext wr w') : RRLoop w0 rv R n M w' := ⟨h.is.ext x, h.x.trans x, h.fr⟩
theorem RRLoop.back {w1 w0 wr : World} {n : Nat} {rv : Value} {R : Nat → Value} {M : Nat → Nat → Bool} (h : RRLoop w0 rv R n M wr) (x : Ext w1 w0) : RRLoop w1 rv R n M wr := ⟨h.is, x.trans h.x, fun k hk => Nat.le_trans x.size (h.fr k hk)⟩
theorem RRLoop.put {w0 wr : World} {n : Nat} {rv : Value} {R : Nat → Value} {M : Nat → Nat → Bool} (h : RRLoop w0 rv R n M wr) {a b : Nat} (ha : a < n) (hb : b < n) (x : Bool) : RRLoop w0 rv R n (updM M a b x) (wr.setCell (at_ (R a) b) (.bool x)) := by
 have h1 := h.is.put ha hb x
 exact ⟨h1.1, h.x.trans' h1.2 (fun k hk => .inr (h.fr k (.inr ⟨a, ha, hk⟩))), h.fr⟩
def RRPost (n : Nat) (M : Nat → Nat → Bool) (w : World) (e : Ending) (w' : World) : Prop := ∃ rv R, e = .returned rv ∧ RRLoop w rv R n M w'
theorem RRPost.nil (M : Nat → Nat → Bool) {w w' : World} (x : Ext w w') : RRPost 0 M w (.returned (.slice none 0 0)) w' :=
 ⟨_, fun _ => .slice none 0 0, rfl, ⟨⟨Own.nil _ _ _, fun i hi => absurd hi (Nat.not_lt_zero _), fun i j k hi => absurd hi (Nat.not_lt_zero _), by decide⟩, x, fun k hk => by rcases hk with hk | ⟨i, hi, _⟩; cases hk; omega⟩⟩
def rowz2 (R : Nat → Value) (i j : Nat) : Value := if j < i then R j else .slice none 0 0
def rupdV (R : Nat → Value) (a : Nat) (v : Value) : Nat → Value := fun i => if i = a then v else R i
structure EmptyRR (w0 : World) (rv : Value) (n i : Nat) (wr : World) : Prop where
 ex : ∃ R : Nat → Value, Own wr 180 1 rv n ((List.range n).map (rowz2 R i)) ∧ (∀ j, j < i → Own wr 4 1 (R j) n (brow n (fun _ => false))) ∧ (∀ j k b, j < i → k < i → (R j).ownBlock = some b → (R k).ownBlock = some b → j = k) ∧ ∀ j b, j < i → (R j).ownBlock = some b → w0.heap.size ≤ b
 md : Mod (fun k => rv.ownBlock = some k) w0 wr
theorem range_map_set2 {f g : Nat → Value} {n i : Nat} (v : Value) (hi : i < n) (h : ∀ j, j < n → j ≠ i → f j = g j) (hv : g i = v) : ((List.range n).map f).set i v = (List.range n).map g := by
 apply List.ext_getElem?
 intro j
 rw [List.getElem?_set]
 by_cases e : i = j
 · subst e; simp [hi, hv]
 · simp only [e, if_false, List.getElem?_map]
   by_cases hj : j < n
   · simp [List.getElem?_range hj, h j hj (Ne.symm e)]
   · simp [List.getElem?_eq_none (show (List.range n).length ≤ j by simp; omega)]
theorem EmptyRR.step {w0 wr : World} {rv : Value} {n i : Nat} (h : EmptyRR w0 rv n i wr) (hi : i < n) (hn : n ≤ 64) :
 EmptyRR w0 rv n (i + 1) ((wr.alloc (.cells (madeCells #[.bool false] n) 4)).setCell (at_ rv i) (.slice (some ⟨wr.heap.size, 0, none⟩) n n)) := by
 obtain ⟨⟨R, ho, hz, hinj, hfr⟩, md⟩ := h
 obtain ⟨w8, hw8⟩ : ∃ x, x = wr.alloc (.cells (madeCells #[.bool false] n) 4) := ⟨_, rfl⟩
 obtain ⟨g8, hg8⟩ : ∃ x, x = wr.heap.size := ⟨_, rfl⟩
 rw [← hw8, ← hg8]
 have x8 : Ext wr w8 := by rw [hw8]; exact (Mod.refl _ _).alloc _
 have b8 : w8.heap[g8]? = some (.cells (madeCells #[.bool false] n) 4 (0, 0)) := by rw [hw8, hg8]; exact heap_alloc_new _ _
 have o8 := ho.ext x8
 have hn0 : 0 < n := by omega
 have os := o8.set hn0 i (.slice (some ⟨g8, 0, none⟩) n n)
 have M8 : Mod (fun k => rv.ownBlock = some k) w8 (w8.setCell (at_ rv i) (.slice (some ⟨g8, 0, none⟩) n n)) := Mod.setCell (F := fun k => rv.ownBlock = some k) (Mod.refl _ _) (.inl (o8.at_block hn0 i)) _
 have r8 : Own w8 4 1 (.slice (some ⟨g8, 0, none⟩) n n) n (brow n (fun _ => false)) := by
  have := Own.made_at b8 (by simp only [maxLen]; omega)
  have e : brow n (fun _ => false) = List.replicate n (.bool false) := by
   apply List.ext_getElem?
   intro j
   by_cases hj : j < n
   · simp [brow, hj]
   · simp [brow, hj]
  rw [e]; exact this
 have hrl : ∀ j b, j < i → (R j).ownBlock = some b → b < wr.heap.size := fun j b hj hb => (hz j hj).lt hb
 have ei : rupdV R i (.slice (some ⟨g8, 0, none⟩) n n) i = .slice (some ⟨g8, 0, none⟩) n n := by simp [rupdV]
 have ej : ∀ j, j < i → rupdV R i (.slice (some ⟨g8, 0, none⟩) n n) j = R j := fun j hj => by simp [rupdV, show j ≠ i by omega]
 have hg : ∀ b, (Value.slice (some ⟨g8, 0, none⟩) n n).ownBlock = some b → b = g8 := fun b hb => by simp [Value.ownBlock] at hb; exact hb.symm
 refine ⟨⟨rupdV R i (.slice (some ⟨g8, 0, none⟩) n n), ?_, fun j hj => ?_, fun j k b hj hk h1 h2 => ?_, fun j b hj h1 => ?_⟩, (md.ext x8).trans M8⟩
 · rw [← range_map_set2 (f := rowz2 R i) (i := i) (.slice (some ⟨g8, 0, none⟩) n n) hi (fun j hj hne => ?_) (by simp [rowz2, ei])]
   · exact os
   · by_cases h1 : j < i
     · simp [rowz2, h1, show j < i + 1 by omega, ej j h1]
     · simp [rowz2, h1, show ¬ j < i + 1 by omega]
 · by_cases e0 : j = i
   · subst e0
     rw [ei]
     exact r8.mod M8 (fun k hk hl => o8.apart r8 (by decide) hl hk)
   · have hji : j < i := by omega
     rw [ej j hji]
     have h9 := (hz j hji).ext x8
     exact h9.mod M8 (fun k hk hl => o8.apart h9 (by decide) hl hk)
 · by_cases e1 : j = i
   · by_cases e2 : k = i
     · omega
     · subst e1
       rw [ei] at h1
       rw [ej k (by omega)] at h2
       have := hg b h1; have := hrl k b (by omega) h2; omega
   · by_cases e2 : k = i
     · subst e2
       rw [ei] at h2
       rw [ej j (by omega)] at h1
       have := hg b h2; have := hrl j b (by omega) h1; omega
     · rw [ej j (by omega)] at h1
       rw [ej k (by omega)] at h2
       exact hinj j k b (by omega) (by omega) h1 h2
 · by_cases e1 : j = i
   · subst e1
     rw [ei] at h1
     have := hg b h1; have := md.size; omega
   · rw [ej j (by omega)] at h1
     exact hfr j b (by omega) h1
set_option maxRecDepth 100000 in
set_option maxHeartbeats 800000 in
theorem rrempty_any (w : World) (n : Nat) (hn : n ≤ 64) :
 Calls Tryz.prog 180 #[.int .i64 (n : Int)] w (RRPost n (fun _ _ => false) w) := by
 have m1 := run_make_row' (P := Tryz.prog) 178 180 (.slice none 0 0) 24 IRR.und IRR.info rfl .i64 .i64 n (by omega) (by omega)
 have m2 := run_make_row' (P := Tryz.prog) 180 4 (.bool false) 1 IBl.und IBl.info rfl .i64 .i64 n (by omega) (by omega)
 have HN := Lib.hid hn
 obtain ⟨w0, hw0⟩ : ∃ w0, w0 = w.alloc (.cells (madeCells #[.slice none 0 0] n) 180) := ⟨_, rfl⟩
 obtain ⟨rv, hrv⟩ : ∃ rv : Value, rv = .slice (some ⟨w.heap.size, 0, none⟩) n n := ⟨_, rfl⟩
 have x0 : Ext w w0 := by rw [hw0]; exact (Mod.refl _ _).alloc _
 have o0 : Own w0 180 1 rv n ((List.range n).map (rowz2 (fun _ => .slice none 0 0) 0)) := by
  have h1 : w0.heap[w.heap.size]? = some (.cells (madeCells #[.slice none 0 0] n) 180 (0, 0)) := by rw [hw0]; exact heap_alloc_new _ _
  have h2 := Own.made_at h1 (by simp [maxLen]; omega)
  rw [hrv]
  have e : (List.range n).map (rowz2 (fun _ => .slice none 0 0) 0) = List.replicate n (.slice none 0 0) := by
   apply List.ext_getElem?
   intro j
   by_cases hj : j < n
   · simp [hj, rowz2]
   · simp [hj]
  rw [e]; exact h2
 have R0 : Hid (EmptyRR w0 rv n 0 w0) := Lib.hid ⟨⟨fun _ => .slice none 0 0, o0, fun j hj => absurd hj (Nat.not_lt_zero _), fun j k b hj => absurd hj (Nat.not_lt_zero _), fun j b hj => absurd hj (Nat.not_lt_zero _)⟩, Mod.refl _ _⟩
 have hrb : rv.ownBlock = some w.heap.size := by rw [hrv]; rfl
 have HW := Lib.hid (And.intro hw0 (And.intro hrv (And.intro x0 hrb)))
 have I0 := Lib.hid (o0.sl.run_idx (P := Tryz.prog) IRR.und IRR.size .i64)
 clear hw0 hrv x0 o0 hrb
 go_enter Tryz.func180, Tryz.ntmps180
 go_upto_region 2 with fail
 rw [← HW.out.1, ← HW.out.2.1]
 clear m1
 go_wp2_with fail
 go_loopw [4] (fun s15 wr => ∃ i : Nat, i ≤ n ∧ s15 = .int .i64 (i : Int) ∧ EmptyRR w0 rv n i wr) (fun s _ => n - (intOf s).toNat)
 case atStart => exact ⟨0, Nat.zero_le _, rfl, R0.out⟩
 case round =>
  obtain ⟨i, hi, rfl, hem⟩ := hrel
  by_cases hlt : i < n
  · have hlt' : (i : Int) < (n : Int) := by omega
    have i0 := I0.out i hlt
    simp only [Nat.mul_one] at i0
    have H1 := Lib.hid (hem.step hlt HN.out)
    obtain ⟨R, ho, -⟩ := hem.ex
    have o8 := ho.ext ((Mod.refl _ _).alloc (.cells (madeCells #[.bool false] n) 4))
    have f8 := o8.frozen i (by omega)
    have c8 := o8.sl.cell i (.slice none 0 0) (by simp [hlt, rowz2])
    clear hem ho o8
    go_wp2_with fail
    go_roundw
    case rel => exact ⟨i + 1, by omega, by go_num, H1.out⟩
    case measure => simp [intOf]; omega
  · have hlt' : ¬ (i : Int) < (n : Int) := by omega
    obtain rfl : i = n := by omega
    have HE := Lib.hid hem
    clear hem
    go_wp2_with fail
    go_ret
    obtain ⟨⟨R, ho, hz, hinj, hfr⟩, md⟩ := HE.out
    have hrb := HW.out.2.2.2
    refine ⟨rv, R, rfl, ⟨⟨?_, hz, hinj, HN.out⟩, HW.out.2.2.1.trans' md (fun k hk => .inr (by rw [hrb] at hk; simp at hk; omega)), fun k hk => ?_⟩⟩
    · have e : (List.range i).map (rowz2 R i) = (List.range i).map R := List.map_congr_left fun j hj => by simp [rowz2, List.mem_range.1 hj]
      rw [← e]; exact ho
    · rcases hk with h | ⟨j, hj, h⟩
      · rw [hrb] at h; simp at h; omega
      · have := hfr j k hj h; have := HW.out.2.2.1.size; omega
end Go.Proofs.YtbhocahmhmafmaaGreat
namespace Go.Proofs.YtbhocahmhmafmaaGreat
open Go.Ren Go.RowKit
set_option linter.unusedVariables false
theorem updM_put (M : Nat → Nat → Bool) (a b x y : Nat) : updM M a b true x y = putR M a b x y := by
 unfold updM putR
 by_cases h : x = a ∧ y = b
 · simp [h]
 · rw [if_neg h]
   by_cases h1 : x = a
   · have h2 : ¬ y = b := fun e => h ⟨h1, e⟩
     simp [h2]
   · simp [h1]
theorem relN_yes {L : Lg} (h : mayL L = true) : relN L = L.ev.length := by unfold relN; rw [if_pos h]
theorem relN_no {L : Lg} (h : mayL L = false) : relN L = 0 := by unfold relN; rw [h]; rfl
set_option maxRecDepth 100000 in
set_option maxHeartbeats 800000 in
theorem rrfrom_any (w : World) (ve vp : Value) (V : Nat → Vs) (L : Lg) (h : LogIn w ve vp V L) (hsm : SmL L) (hl : L.ev.length ≤ 64) :
 Calls Tryz.prog 165 #[.agg #[ve, vp]] w (RRPost (relN L) (fromB L) w) := by
 have HSM := Lib.hid hsm
 have HN := Lib.hid hl
 have hle : (L.ev.length : Int) ≤ 64 := by omega
 clear hsm hl
 have q1 := Sl.cells_eq h.row
 have q2 := Sl.cells_eq h.prow
 have s1 := Sl.run_st (P := Tryz.prog) h.row
 have s2 := Sl.run_st (P := Tryz.prog) h.prow
 obtain ⟨w0, hw0⟩ : ∃ w0, w0 = w.alloc (.cells #[ve, vp] 57) := ⟨_, rfl⟩
 obtain ⟨g0, hg0⟩ : ∃ g, g = w.heap.size := ⟨_, rfl⟩
 have x0 : Ext w w0 := by rw [hw0]; exact (Mod.refl _ _).alloc _
 have b0 : RLogBox w0 g0 ve vp := ⟨by rw [hw0, hg0]; exact heap_alloc_new _ _⟩
 have HW := Lib.hid (And.intro hw0 (And.intro hg0 x0))
 have KE : Hid (∀ w', Ext w0 w' → LogIn w' ve vp V L ∧ RLogBox w' g0 ve vp) := Lib.hid fun w' x => ⟨h.ext (x0.trans x), b0.ext x⟩
 have HI := Lib.hid (h.row.run_idx (P := Tryz.prog) IRe.und IRe.size .i64)
 have HJ := Lib.hid (h.prow.run_idx (P := Tryz.prog) IP.und IP.size .i64)
 have l1 := h.row.run_len (P := Tryz.prog) IRe.und 3
 have l2 := h.prow.run_len (P := Tryz.prog) IP.und 3
 obtain ⟨c0, c1⟩ := b0.cells
 clear hw0 hg0 x0 b0 h
 go_enter Tryz.func165, Tryz.ntmps165
 go_upto_region 1 with fail
 rw [← HW.out.1, ← HW.out.2.1]
 clear s1 s2
 go_wp2_with fail
 refine (rmay_any _ ve vp V L (KE.out _ (Mod.refl _ _)).1 HSM.out).mono ?_
 rintro e w1 ⟨rfl, x1⟩
 clear c0 c1
 cases hm : mayL L with
 | false =>
  have HM : Hid (relN L = 0) := Lib.hid (relN_no hm)
  clear hm
  go_wp2_with fail
  go_ret
  have e0 := HM.out
  rw [e0]
  exact RRPost.nil _ (HW.out.2.2.trans x1)
 | true =>
  have HM := Lib.hid hm
  clear hm
  obtain ⟨c0, c1⟩ := (KE.out _ x1).2.cells
  go_wp2_with fail
  refine (rrempty_any _ L.ev.length HN.out).mono ?_
  rintro e w2 ⟨rv, R, rfl, hlp⟩
  clear c0 c1
  obtain ⟨c0, c1⟩ := (KE.out _ (x1.trans hlp.x)).2.cells
  have R0 : Hid (RRLoop w1 rv R L.ev.length (fun x y => decide (y < 0) && fromB L x y) w2) := Lib.hid (hlp.congr fun a b _ _ => by simp)
  have X1 := Lib.hid x1
  clear hlp x1
  go_wp2_with fail
  clear c0 c1
  go_loopw [4] (fun s wr => ∃ b : Nat, b ≤ L.ev.length ∧ s = .int .i64 (b : Int) ∧ RRLoop w1 rv R L.ev.length (fun x y => decide (y < b) && fromB L x y) wr) (fun s _ => L.ev.length - (intOf s).toNat)
  case atStart => exact ⟨0, Nat.zero_le _, rfl, R0.out⟩
  case round =>
   obtain ⟨b, hb, rfl, hlp⟩ := hrel
   obtain ⟨c0, c1⟩ := (KE.out _ (X1.out.trans hlp.x)).2.cells
   by_cases hlt : b < L.ev.length
   · have hlt' : (b : Int) < (L.ev.length : Int) := by omega
     have i0 := HI.out b hlt
     have hea := (KE.out _ (X1.out.trans hlp.x)).1.ev b hlt
     have HF := Lib.hid (fun k hk => may_from HM.out hlt (k := k) hk)
     have HL8 := may_small HM.out hlt
     have R5 := Lib.hid (hlp.congr (M' := fromP L b 0) fun x y _ _ => (fromP_zero L b x y).symm)
     have l5 := hea.fr.sl.run_len (P := Tryz.prog) II.und 3
     have J5 := Lib.hid (hea.fr.sl.run_idx (P := Tryz.prog) II.und II.size .i64)
     obtain ⟨e, he⟩ : ∃ e, e = evn L.ev b := ⟨_, rfl⟩
     obtain ⟨v, hv⟩ : ∃ v, v = V b := ⟨_, rfl⟩
     obtain ⟨A, hA⟩ : ∃ A, A = at_ ve (b * 10) := ⟨_, rfl⟩
     rw [← hA] at i0
     rw [← he] at HF HL8 l5 J5
     rw [← hv] at l5 J5
     have HE := Lib.hid (And.intro he (And.intro hv hA))
     clear hlp hea he hv hA
     go_wp2_with fail
     clear c0 c1
     go_loopw [5] (fun s wr => ∃ k : Nat, k ≤ e.fr.length ∧ s = .int .i64 (k : Int) ∧ RRLoop w1 rv R L.ev.length (fromP L b k) wr) (fun s _ => e.fr.length - (intOf s).toNat)
     case atStart => exact ⟨0, Nat.zero_le _, rfl, R5.out⟩
     case round =>
      obtain ⟨k, hk, rfl, hlp⟩ := hrel
      have hlg := (KE.out _ (X1.out.trans hlp.x)).1
      obtain ⟨c0, c1⟩ := (KE.out _ (X1.out.trans hlp.x)).2.cells
      have c9 := (hlg.cells hlt).2.2.2.2.2.2.2.2.2
      rw [← HE.out.2.1, ← HE.out.2.2] at c9
      have hea := hlg.ev b hlt
      rw [← HE.out.1, ← HE.out.2.1] at hea
      by_cases hkl : k < e.fr.length
      · have hkl' : (k : Int) < (e.fr.length : Int) := by omega
        have j0 := J5.out k hkl
        simp only [Nat.mul_one] at j0
        have cF := IntsAt.cell (l := e.fr) (v := v.f) (w := wr) hea.fr hkl
        have HEE : Hid (e = evn L.ev b) := Lib.hid HE.out.1
        rcases HF.out k hkl with hx | ⟨a, hx, hab⟩
        · rw [hx] at cF
          have HX : Hid (∀ x y, fromP L b k x y = fromP L b (k + 1) x y) := Lib.hid (by have := HEE.out; subst this; exact fromP_neg hkl hx)
          have HLP := Lib.hid hlp
          clear hx hlp hlg hea
          go_wp2_with fail
          go_roundw
          case rel => exact ⟨k + 1, by omega, by go_num, HLP.out.congr fun x y _ _ => HX.out x y⟩
          case measure => simp [intOf]; omega
        · rw [hx] at cF
          have hal : a < L.ev.length := by omega
          have HX : Hid (∀ x y, putR (fromP L b k) a b x y = fromP L b (k + 1) x y) := Lib.hid (by have := HEE.out; subst this; exact fromP_put hkl hx)
          have HLP := Lib.hid (hlp.put hal hlt true)
          obtain ⟨f1, f2, f3⟩ := hlp.is.facts hal hlt
          obtain ⟨i1, i2⟩ := hlp.is.idx hal hlt
          clear hx hlp hlg hea
          go_wp2_with fail
          go_roundw
          case rel => exact ⟨k + 1, by omega, by go_num, HLP.out.congr fun x y _ _ => (updM_put _ _ _ _ _).trans (HX.out x y)⟩
          case measure => simp [intOf]; omega
      · have hkl' : ¬ (k : Int) < (e.fr.length : Int) := by omega
        have HK : Hid (k = e.fr.length) := Lib.hid (by omega)
        have HLP := Lib.hid hlp
        clear hlp hlg hea
        go_wp2_with fail
        go_roundw
        case rel => exact ⟨b + 1, by omega, by go_num, HLP.out.congr fun x y _ _ => fromP_all (by rw [← HE.out.1]; exact HK.out) x y⟩
        case measure => simp [intOf]; omega
   · have hlt' : ¬ (b : Int) < (L.ev.length : Int) := by omega
     have HK : Hid (b = L.ev.length) := Lib.hid (by omega)
     have HLP := Lib.hid hlp
     clear hlp
     go_wp2_with fail
     go_ret
     have e0 := relN_yes HM.out
     rw [e0]
     exact ⟨rv, R, rfl, (HLP.out.congr fun x y _ hy => by have := HK.out; subst this; simp [hy]).back (HW.out.2.2.trans X1.out)⟩
end Go.Proofs.YtbhocahmhmafmaaGreat
namespace Go.Proofs.YtbhocahmhmafmaaGreat
open Go.Ren Go.RowKit
set_option linter.unusedVariables false
def RTwoEv (w0 : World) (x y : Ev) (u v : Vs) (s1 s2 : Value) (wq : World) : Prop := ∃ g1 g2, s1 = .pointer (some ⟨g1, 0, none⟩) ∧ s2 = .pointer (some ⟨g2, 0, none⟩) ∧ REvBox wq g1 x u ∧ REvBox wq g2 y v ∧ Ext w0 wq
theorem RTwoEv.keep {w0 : World} {x y : Ev} {u v : Vs} {s1 s2 : Value} {wq : World} (h : RTwoEv w0 x y u v s1 s2 wq) (hx : EvAt w0 x u) (hy : EvAt w0 y v) : ∃ b1 b2, s1 = .pointer (some ⟨b1, 0, none⟩) ∧ s2 = .pointer (some ⟨b2, 0, none⟩) ∧ Ext w0 wq ∧
 Hid (∀ w', Ext wq w' → (w'.cell? ⟨b1, 0, none⟩ = some (.int .i64 (x).ag) ∧ w'.cell? ⟨b1, 1, none⟩ = some (.int .i64 (x).kind) ∧ w'.cell? ⟨b1, 2, none⟩ = some (.bool (x).seq) ∧ w'.cell? ⟨b1, 3, none⟩ = some (.bool (x).nt) ∧ w'.cell? ⟨b1, 4, none⟩ = some (.int .i64 (x).blk) ∧ w'.cell? ⟨b1, 5, none⟩ = some (.int .i64 (x).at_) ∧ w'.cell? ⟨b1, 6, none⟩ = some (.int .i64 (x).size) ∧ w'.cell? ⟨b1, 7, none⟩ = some u.r ∧ w'.cell? ⟨b1, 8, none⟩ = some u.w ∧ w'.cell? ⟨b1, 9, none⟩ = some u.f) ∧ (w'.cell? ⟨b2, 0, none⟩ = some (.int .i64 (y).ag) ∧ w'.cell? ⟨b2, 1, none⟩ = some (.int .i64 (y).kind) ∧ w'.cell? ⟨b2, 2, none⟩ = some (.bool (y).seq) ∧ w'.cell? ⟨b2, 3, none⟩ = some (.bool (y).nt) ∧ w'.cell? ⟨b2, 4, none⟩ = some (.int .i64 (y).blk) ∧ w'.cell? ⟨b2, 5, none⟩ = some (.int .i64 (y).at_) ∧ w'.cell? ⟨b2, 6, none⟩ = some (.int .i64 (y).size) ∧ w'.cell? ⟨b2, 7, none⟩ = some v.r ∧ w'.cell? ⟨b2, 8, none⟩ = some v.w ∧ w'.cell? ⟨b2, 9, none⟩ = some v.f) ∧ EvAt w' ⟨x.ag, x.kind, x.seq, x.nt, x.blk, x.at_, x.size, x.rd, x.wr, x.fr⟩ u ∧ EvAt w' ⟨y.ag, y.kind, y.seq, y.nt, y.blk, y.at_, y.size, y.rd, y.wr, y.fr⟩ v) := by
 obtain ⟨b1, b2, e1, e2, h1, h2, h3⟩ := h
 exact ⟨b1, b2, e1, e2, h3, Lib.hid fun w' z => ⟨(h1.ext z).cells, (h2.ext z).cells, hx.ext (h3.trans z), hy.ext (h3.trans z)⟩⟩
end Go.Proofs.YtbhocahmhmafmaaGreat
