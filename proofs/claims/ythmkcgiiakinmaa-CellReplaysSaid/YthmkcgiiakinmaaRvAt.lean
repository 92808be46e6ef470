/-
  The contracts of the document's small functions of chapter 14, of renlaw14.Event. No condition.
-/
import Derived.Test.YthmkcgiiakinmaaEvTool
import Derived.Test.YthmkcgiiakinmaaEvTurnsLaw
import Derived.Test.YthmkcgiiakinmaaPlanT
namespace Go.Proofs.Ythmkcgiiakinmaa
open Go.Ren Go.RowKit
set_option linter.unusedVariables false

structure REvBox (w : World) (g : Nat) (e : Ev) (v : Vs) : Prop where
  b : w.heap[g]? = some (.cells (evArr e v) 67 (0, 0))
theorem REvBox.ext {w w' : World} {g : Nat} {e : Ev} {v : Vs} (h : REvBox w g e v) (x : Ext w w') : REvBox w' g e v := ⟨x.blk h.b⟩
theorem REvBox.cells {w : World} {g : Nat} {e : Ev} {v : Vs} (h : REvBox w g e v) :
    w.cell? ⟨g, 0, none⟩ = some (.int .i64 e.ag) ∧ w.cell? ⟨g, 1, none⟩ = some (.int .i64 e.kind) ∧ w.cell? ⟨g, 2, none⟩ = some (.bool e.seq) ∧ w.cell? ⟨g, 3, none⟩ = some (.bool e.nt) ∧ w.cell? ⟨g, 4, none⟩ = some (.int .i64 e.blk) ∧ w.cell? ⟨g, 5, none⟩ = some (.int .i64 e.at_) ∧ w.cell? ⟨g, 6, none⟩ = some (.int .i64 e.size) ∧ w.cell? ⟨g, 7, none⟩ = some v.r ∧ w.cell? ⟨g, 8, none⟩ = some v.w ∧ w.cell? ⟨g, 9, none⟩ = some v.f := by
  simp [World.cell?, h.b]
theorem rreads_any (w : World) (e : Ev) (v : Vs) (h : EvAt w e v) :
    Calls Try.prog 78 #[evV e v] w fun r w' => r = .returned (.bool (rdsB e)) ∧ Ext w w' := by
  obtain ⟨k1, k2, k3, t1, t2, t3⟩ := ev_facts h
  clear h
  unfold evV
  go_enter Try.func78, Try.ntmps78
  go_wp2
  all_goals
    go_ret
    exact ⟨ret_bool (by clear k1 k2 k3 t1 t2 t3; rw [Bool.eq_iff_iff]; simp_all [rdsB]), (Mod.refl _ _).alloc _⟩
theorem rwrites_any (w : World) (e : Ev) (v : Vs) (h : EvAt w e v) :
    Calls Try.prog 80 #[evV e v] w fun r w' => r = .returned (.bool (wrsB e)) ∧ Ext w w' := by
  obtain ⟨k1, k2, k3, t1, t2, t3⟩ := ev_facts h
  clear h
  unfold evV
  go_enter Try.func80, Try.ntmps80
  go_wp2
  all_goals
    go_ret
    exact ⟨ret_bool (by clear k1 k2 k3 t1 t2 t3; rw [Bool.eq_iff_iff]; simp_all [wrsB]), (Mod.refl _ _).alloc _⟩
theorem requal_any (w : World) (a b : Ev) (v u : Vs) (ha : EvAt w a v) (hb : EvAt w b u) :
    Calls Try.prog 75 #[evV a v, evV b u] w fun r w' => r = .returned (.bool (evEq a b)) ∧ Ext w w' := by
  obtain ⟨k1, k2, k3, t1, t2, t3⟩ := ev_facts ha
  obtain ⟨k4, k5, k6, t4, t5, t6⟩ := ev_facts hb
  clear ha hb
  unfold evV
  go_enter Try.func75, Try.ntmps75
  go_wp2
  all_goals
    go_ret
    exact ⟨ret_bool (by clear k1 k2 k3 t1 t2 t3 k4 k5 k6 t4 t5 t6; rw [Bool.eq_iff_iff]; simp_all [evEq]), ((Mod.refl _ _).alloc _).alloc _⟩
theorem rcov_eq {e : Ev} {b a : Int} (c : Bool) (h : c = decide (e.kind ≠ 0 ∧ e.blk = b ∧ 0 < e.size ∧ e.at_ ≤ a ∧ a - e.at_ < e.size)) : c = evCov e b a := by
  rw [h, Bool.eq_iff_iff]
  unfold evCov withB
  simp only [Bool.and_eq_true, decide_eq_true_eq]
  constructor
  · rintro ⟨h1, h2, h3, h4, h5⟩; exact ⟨⟨h1, h2⟩, h4, h5⟩
  · rintro ⟨⟨h1, h2⟩, h4, h5⟩; exact ⟨h1, h2, by omega, h4, h5⟩
theorem rcovers_any (w : World) (e : Ev) (v : Vs) (h : EvAt w e v) (b a : Int) (ha : I64 a) :
    Calls Try.prog 100 #[evV e v, .int .i64 b, .int .i64 a] w fun r w' => r = .returned (.bool (evCov e b a)) ∧ Ext w w' := by
  obtain ⟨k1, k2, k3, t1, t2, t3⟩ := ev_facts h
  have hok := h.ok
  clear h
  unfold evV
  obtain ⟨C, hC⟩ : ∃ C, C = evCov e b a := ⟨_, rfl⟩
  rw [← hC]
  have HC := Lib.hid hC
  clear hC
  rcases (by omega : e.kind = 0 ∨ (e.kind ≠ 0 ∧ e.blk ≠ b) ∨ (e.kind ≠ 0 ∧ e.blk = b ∧ e.size ≤ 0) ∨ (e.kind ≠ 0 ∧ e.blk = b ∧ 0 < e.size ∧ a < e.at_) ∨ (e.kind ≠ 0 ∧ e.blk = b ∧ 0 < e.size ∧ e.at_ ≤ a)) with z | ⟨z, z1⟩ | ⟨z, z1, z2⟩ | ⟨z, z1, z2, z3⟩ | ⟨z, z1, z2, z3⟩
  case inr.inr.inr.inr =>
    have hsub := u64_sub ha hok.at_ z3
    have hm : IntKind.u64.wrap e.size = e.size := IntWalk.u64_in _ (by have := hok.size; unfold I64 at this; omega)
    have e0 : (e.kind != 0) = true := by simpa using z
    have e1 : (e.blk == b) = true := by simpa using z1
    have HF : Hid (C = decide (a - e.at_ < e.size)) := Lib.hid (by rw [HC.out]; refine (rcov_eq _ ?_).symm; simp only [decide_eq_decide]; omega)
    clear ha hok z z1
    go_enter Try.func100, Try.ntmps100
    go_wp2
    all_goals
      go_ret
      exact ⟨ret_bool (by rw [HF.out]), (Mod.refl _ _).alloc _⟩
  all_goals
    have HF : Hid (C = false) := Lib.hid (by rw [HC.out]; refine (rcov_eq _ ?_).symm; symm; rw [decide_eq_false_iff_not]; omega)
    clear ha hok
  case inl =>
    have e0 : (e.kind != 0) = false := by simpa using z
    clear z
    go_enter Try.func100, Try.ntmps100
    go_wp2
    go_ret
    exact ⟨ret_bool HF.out.symm, (Mod.refl _ _).alloc _⟩
  case inr.inl =>
    have e0 : (e.kind != 0) = true := by simpa using z
    have e1 : (e.blk == b) = false := by simpa using z1
    clear z z1
    go_enter Try.func100, Try.ntmps100
    go_wp2
    go_ret
    exact ⟨ret_bool HF.out.symm, (Mod.refl _ _).alloc _⟩
  case inr.inr.inl =>
    have e0 : (e.kind != 0) = true := by simpa using z
    have e1 : (e.blk == b) = true := by simpa using z1
    clear z z1
    go_enter Try.func100, Try.ntmps100
    go_wp2
    go_ret
    exact ⟨ret_bool HF.out.symm, (Mod.refl _ _).alloc _⟩
  case inr.inr.inr.inl =>
    have e0 : (e.kind != 0) = true := by simpa using z
    have e1 : (e.blk == b) = true := by simpa using z1
    clear z z1
    go_enter Try.func100, Try.ntmps100
    go_wp2
    go_ret
    exact ⟨ret_bool HF.out.symm, (Mod.refl _ _).alloc _⟩
set_option maxRecDepth 100000 in
theorem roverlap_any (w : World) (a b : Ev) (v u : Vs) (ha : EvAt w a v) (hb : EvAt w b u) :
    Calls Try.prog 74 #[evV a v, evV b u] w (FPost (evOver a b) w) := by
  obtain ⟨k1, k2, k3, t1, t2, t3⟩ := ev_facts ha
  obtain ⟨k4, k5, k6, t4, t5, t6⟩ := ev_facts hb
  obtain ⟨w0, hw0⟩ : ∃ w0, w0 = (w.alloc (.cells (evArr a v) 67)).alloc (.cells (evArr b u) 67) := ⟨_, rfl⟩
  obtain ⟨g, hg⟩ : ∃ g, g = w.heap.size := ⟨_, rfl⟩
  have x0 : Ext w w0 := by rw [hw0]; exact ((Mod.refl _ _).alloc _).alloc _
  have b0 : REvBox w0 g a v := ⟨by rw [hw0, hg]; exact heap_alloc2_old _ _ _⟩
  have b1 : REvBox w0 (g + 1) b u := ⟨by rw [hw0, hg]; exact heap_alloc2_new _ _ _⟩
  have KE : Hid (∀ w', Ext w0 w' → REvBox w' g a v ∧ REvBox w' (g + 1) b u ∧ EvAt w' a v ∧ EvAt w' b u) := Lib.hid fun w' x => ⟨b0.ext x, b1.ext x, ha.ext (x0.trans x), hb.ext (x0.trans x)⟩
  have HW := Lib.hid (And.intro hw0 (And.intro hg x0))
  obtain ⟨O, hO⟩ : ∃ O, O = evOver a b := ⟨_, rfl⟩
  rw [← hO]
  have HO := Lib.hid hO
  have ia := ha.ok
  have ib := hb.ok
  obtain ⟨c0, c1, c2, c3, c4, c5, c6, c7, c8, c9⟩ := b0.cells
  obtain ⟨d0, d1, d2, d3, d4, d5, d6, d7, d8, d9⟩ := b1.cells
  clear hw0 hg x0 b0 b1 ha hb hO
  unfold evV
  rcases (by omega : a.size ≤ 0 ∨ (0 < a.size ∧ b.size ≤ 0) ∨ (0 < a.size ∧ 0 < b.size ∧ a.kind = 0) ∨ (0 < a.size ∧ 0 < b.size ∧ a.kind ≠ 0 ∧ b.kind = 0) ∨ (0 < a.size ∧ 0 < b.size ∧ a.kind ≠ 0 ∧ b.kind ≠ 0 ∧ a.blk ≠ b.blk) ∨ (0 < a.size ∧ 0 < b.size ∧ a.kind ≠ 0 ∧ b.kind ≠ 0 ∧ a.blk = b.blk)) with z | ⟨z, z1⟩ | ⟨z, z1, z2⟩ | ⟨z, z1, z2, z3⟩ | ⟨z, z1, z2, z3, z4⟩ | ⟨z, z1, z2, z3, z4⟩
  case inr.inr.inr.inr.inr =>
    have HL : Hid (O = (evCov a b.blk b.at_ || evCov b a.blk a.at_)) := Lib.hid (by
      rw [HO.out, Bool.eq_iff_iff, evOver_iff]
      unfold evCov withB
      simp only [Bool.or_eq_true, Bool.and_eq_true, decide_eq_true_eq]
      constructor
      · rintro ⟨-, h | h⟩
        · exact .inr ⟨⟨z3, z4.symm⟩, h⟩
        · exact .inl ⟨⟨z2, z4⟩, h⟩
      · rintro (⟨-, h⟩ | ⟨-, h⟩)
        · exact ⟨⟨z2, z3, z4, z, z1⟩, .inr h⟩
        · exact ⟨⟨z2, z3, z4, z, z1⟩, .inl h⟩)
    have e0 : (a.kind != 0) = true := by simpa using z2
    have e1 : (b.kind != 0) = true := by simpa using z3
    have e2 : (a.blk == b.blk) = true := by simpa using z4
    clear z2 z3 z4
    go_enter Try.func74, Try.ntmps74
    go_upto_region 1 with fail
    rw [← HW.out.1, ← HW.out.2.1]
    clear t1 t2 t3 t4 t5 t6
    go_wp2_with fail
    refine (rcovers_any _ a v (KE.out _ (Mod.refl _ _)).2.2.1 b.blk b.at_ ib.at_).mono ?_
    rintro r w1 ⟨rfl, x1⟩
    clear c0 c1 c2 c3 c4 c5 c6 c7 c8 c9 d0 d1 d2 d3 d4 d5 d6 d7 d8 d9
    obtain ⟨c0, c1, c2, c3, c4, c5, c6, c7, c8, c9⟩ := (KE.out _ x1).1.cells
    obtain ⟨d0, d1, d2, d3, d4, d5, d6, d7, d8, d9⟩ := (KE.out _ x1).2.1.cells
    cases hc : evCov a b.blk b.at_ with
    | true =>
      have HR : Hid (O = true) := Lib.hid (by rw [HL.out, hc]; rfl)
      clear hc
      go_wp2_with fail
      go_ret
      exact ⟨ret_bool HR.out.symm, HW.out.2.2.trans x1⟩
    | false =>
      have HR : Hid (O = evCov b a.blk a.at_) := Lib.hid (by rw [HL.out, hc]; rfl)
      clear hc
      go_wp2_with fail
      refine (rcovers_any _ b u (KE.out _ x1).2.2.2 a.blk a.at_ ia.at_).mono ?_
      rintro r w2 ⟨rfl, x2⟩
      go_wp2_with fail
      go_ret
      exact ⟨ret_bool HR.out.symm, (HW.out.2.2.trans x1).trans x2⟩
  all_goals
    have HF : Hid (O = false) := Lib.hid (by
      rw [HO.out]
      cases hq : evOver a b with
      | false => rfl
      | true => have := (evOver_iff.1 hq).1; omega)
  case inl =>
    go_enter Try.func74, Try.ntmps74
    go_upto_region 1 with fail
    rw [← HW.out.1, ← HW.out.2.1]
    go_wp2_with fail
    go_ret
    exact ⟨ret_bool HF.out.symm, HW.out.2.2⟩
  case inr.inl =>
    go_enter Try.func74, Try.ntmps74
    go_upto_region 1 with fail
    rw [← HW.out.1, ← HW.out.2.1]
    go_wp2_with fail
    go_ret
    exact ⟨ret_bool HF.out.symm, HW.out.2.2⟩
  case inr.inr.inl =>
    have e0 : (a.kind != 0) = false := by simpa using z2
    clear z2
    go_enter Try.func74, Try.ntmps74
    go_upto_region 1 with fail
    rw [← HW.out.1, ← HW.out.2.1]
    go_wp2_with fail
    go_ret
    exact ⟨ret_bool HF.out.symm, HW.out.2.2⟩
  case inr.inr.inr.inl =>
    have e0 : (a.kind != 0) = true := by simpa using z2
    have e1 : (b.kind != 0) = false := by simpa using z3
    clear z2 z3
    go_enter Try.func74, Try.ntmps74
    go_upto_region 1 with fail
    rw [← HW.out.1, ← HW.out.2.1]
    go_wp2_with fail
    go_ret
    exact ⟨ret_bool HF.out.symm, HW.out.2.2⟩
  case inr.inr.inr.inr.inl =>
    have e0 : (a.kind != 0) = true := by simpa using z2
    have e1 : (b.kind != 0) = true := by simpa using z3
    have e2 : (a.blk == b.blk) = false := by simpa using z4
    clear z2 z3 z4
    go_enter Try.func74, Try.ntmps74
    go_upto_region 1 with fail
    rw [← HW.out.1, ← HW.out.2.1]
    go_wp2_with fail
    go_ret
    exact ⟨ret_bool HF.out.symm, HW.out.2.2⟩
def EvPost (e : Ev) (v : Vs) (w : World) (r : Ending) (w' : World) : Prop := r = .returned (evV e v) ∧ Ext w w'
set_option maxRecDepth 100000 in
theorem event_any (w : World) (e : Ev) (v : Vs) (h : EvAt w e v) :
    Calls Try.prog 55 #[evV e v] w (EvPost e v w) := by
  obtain ⟨vr, vw, vf⟩ := v
  obtain ⟨a1, c1, h1, -⟩ := h.rd.shape
  obtain ⟨a2, c2, h2, -⟩ := h.wr.shape
  obtain ⟨a3, c3, h3, -⟩ := h.fr.sl.shape
  simp only at h1 h2 h3
  subst h1 h2 h3
  clear h
  obtain ⟨g, hg⟩ : ∃ g, g = w.heap.size := ⟨_, rfl⟩
  obtain ⟨w0, hw0⟩ : ∃ w0, w0 = (w.alloc (.cells (evArr e ⟨.slice a1 e.rd.length c1, .slice a2 e.wr.length c2, .slice a3 e.fr.length c3⟩) 45)).alloc (.cells #[.int .i64 0, .int .i64 0, .bool false, .bool false, .int .i64 0, .int .i64 0, .int .i64 0, .slice none 0 0, .slice none 0 0, .slice none 0 0] 67) := ⟨_, rfl⟩
  have x0 : Ext w w0 := by rw [hw0]; exact ((Mod.refl _ _).alloc _).alloc _
  have b0 : EvBox w0 g e ⟨.slice a1 e.rd.length c1, .slice a2 e.wr.length c2, .slice a3 e.fr.length c3⟩ := ⟨by rw [hw0, hg]; exact heap_alloc2_old _ _ _⟩
  have b1 : w0.heap[g + 1]? = some (.cells #[.int .i64 0, .int .i64 0, .bool false, .bool false, .int .i64 0, .int .i64 0, .int .i64 0, .slice none 0 0, .slice none 0 0, .slice none 0 0] 67 (0, 0)) := by rw [hw0, hg]; exact heap_alloc2_new _ _ _
  have HW := Lib.hid (And.intro hw0 (And.intro hg (And.intro x0 b1)))
  obtain ⟨d0, d1, d2, d3, d4, d5, d6, d7, d8, d9⟩ := b0.cells
  clear hw0 hg x0 b0 b1
  unfold evV
  go_enter Try.func55, Try.ntmps55
  go_upto_region 1 with fail
  rw [← HW.out.1, ← HW.out.2.1]
  go_wp2_with (refine wpList_store_row rfl 67 (.tmp 2) (.tmp 23) rfl (g + 1) (evArr e ⟨.slice a1 e.rd.length c1, .slice a2 e.wr.length c2, .slice a3 e.fr.length c3⟩) rfl rfl 67 _ HW.out.2.2.2 (by kernel_rfl) rfl (evArr_all rfl rfl rfl) ?_)
  have hb := setRow_heap w0 (g + 1) _ (evArr e ⟨.slice a1 e.rd.length c1, .slice a2 e.wr.length c2, .slice a3 e.fr.length c3⟩) _ _ HW.out.2.2.2
  refine bodyPost_ret (results_cell_row rfl _ _ (g + 1) 67 _ (0, 0) _ rfl hb Try.underlying67 rfl (by kernel_rfl)) rfl ?_
  exact ⟨rfl, HW.out.2.2.1.trans' (G := fun k => k = g + 1) ⟨rfl, rfl, rfl, by simp [World.setRow], fun k _ hk => setRow_other w0 (g + 1) k _ hk⟩ (fun i hi => .inr (by have := HW.out.2.1; omega))⟩
end Go.Proofs.Ythmkcgiiakinmaa
