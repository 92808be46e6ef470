/-
  EventMore: the walk of renlaw14.EventMore. No condition.
-/
import Derived.Test.YtkibdabbjbcboaaEvMore
import Derived.Test.YtkibdabbjbcboaaEvMoreLaw
namespace Go.Proofs.Ytkibdabbjbcboaa
open Go.Ren Go.RowKit
set_option linter.unusedVariables false

theorem nilB (W : World) : BytesAt W (.slice none 0 0) [] := (Own.nil W 5 1).sl
theorem nilI (W : World) : IntsAt W (.slice none 0 0) [] := ⟨(Own.nil W 3 1).sl, fun x hx => by cases hx⟩
theorem oneB {W : World} {g : Nat} {x : UInt8} (h : W.heap[g]? = some (.cells #[.int .u8 (x.toNat : Int)] 5 (0, 0))) : BytesAt W (.slice (some ⟨g, 0, none⟩) 1 1) [x] := built_sl (n := 1) (sz := 1) h rfl (by simp [maxLen])
theorem oneI {W : World} {g : Nat} {x : Int} (h : W.heap[g]? = some (.cells #[.int .i64 x] 3 (0, 0))) (hx : I64 x) : IntsAt W (.slice (some ⟨g, 0, none⟩) 1 1) [x] := ⟨built_sl (n := 1) (sz := 1) h rfl (by simp [maxLen]), fun y hy => by rw [List.mem_singleton.1 hy]; exact hx⟩
theorem i64_c (n : Int) (h : (decide (-1000 ≤ n) && decide (n ≤ 1000)) = true) : I64 n := by simp at h; unfold I64; omega
theorem evA_at (W : World) {a : Int} (ha : I64 a) : EvAt W (evA a) ⟨.slice none 0 0, .slice none 0 0, .slice none 0 0⟩ := ⟨nilB W, nilB W, nilI W, ⟨ha, i64_c _ rfl, i64_c _ rfl, i64_c _ rfl, i64_c _ rfl, fun x hx => by cases hx⟩⟩
theorem evB_at {W : World} {a : Int} (ha : I64 a) {x : UInt8} {g : Nat} (h : W.heap[g]? = some (.cells #[.int .u8 (x.toNat : Int)] 5 (0, 0))) : EvAt W (evB a x) ⟨.slice none 0 0, .slice (some ⟨g, 0, none⟩) 1 1, .slice none 0 0⟩ := ⟨nilB W, oneB h, nilI W, ⟨ha, i64_c _ rfl, i64_c _ rfl, i64_c _ rfl, i64_c _ rfl, fun x hx => by cases hx⟩⟩
theorem evC_at {W : World} {a : Int} (ha : I64 a) {x : UInt8} {f : Int} (hf : I64 f) {g g' : Nat} (h : W.heap[g]? = some (.cells #[.int .u8 (x.toNat : Int)] 5 (0, 0))) (h' : W.heap[g']? = some (.cells #[.int .i64 f] 3 (0, 0))) : EvAt W (evC a x f) ⟨.slice (some ⟨g, 0, none⟩) 1 1, .slice none 0 0, .slice (some ⟨g', 0, none⟩) 1 1⟩ :=
  ⟨oneB h, nilB W, oneI h' hf, ⟨ha, i64_c _ rfl, i64_c _ rfl, i64_c _ rfl, i64_c _ rfl, fun x hx => by rw [List.mem_singleton.1 hx]; exact hf⟩⟩
theorem blk_b1 (w : World) (c : Array Value) (t : TypeId) (d : Array Value) (u : TypeId) : ((w.alloc (.cells c t)).alloc (.cells d u)).heap[w.heap.size]? = some (.cells c t (0, 0)) := heap_alloc2_old _ _ _

set_option maxRecDepth 100000 in
set_option maxHeartbeats 1600000 in
theorem mores_all (w : World) (ve vp : Value) (V : Nat → Vs) (L : Lg) (h : LogIn w ve vp V L) (a : Int) (ha : I64 a) (x : UInt8) :
    Calls Try.prog 12 #[.agg #[ve, vp], .int .i64 a, .int .u8 (x.toNat : Int)] w (FPost true w) := by
  have q1 := Sl.cells_eq h.row
  have q2 := Sl.cells_eq h.prow
  have s1 := Sl.run_st (P := Try.prog) h.row
  have s2 := Sl.run_st (P := Try.prog) h.prow
  have l1 := h.row.run_len (P := Try.prog) IEv.und 3
  obtain ⟨w0, hw0⟩ : ∃ w0, w0 = w.alloc (.cells #[ve, vp] 25) := ⟨_, rfl⟩
  obtain ⟨g, hg0⟩ : ∃ g, g = w.heap.size := ⟨_, rfl⟩
  have x0 : Ext w w0 := by rw [hw0]; exact (Mod.refl _ _).alloc _
  have b0 : LogBox w0 g ve vp := ⟨by rw [hw0, hg0]; exact heap_alloc_new _ _⟩
  have HW := Lib.hid (And.intro hw0 (And.intro hg0 x0))
  have KE : Hid (∀ w', Ext w0 w' → LogIn w' ve vp V L ∧ LogBox w' g ve vp) := Lib.hid fun w' x => ⟨h.ext (x0.trans x), b0.ext x⟩
  have HA := Lib.hid ha
  clear hw0 hg0 x0 b0 h ha
  go_enter Try.func12, Try.ntmps12
  go_upto_region 1 with fail
  rw [← HW.out.1, ← HW.out.2.1]
  clear s1 s2
  go_wp2_with fail
  refine (first14_any _).mono ?_
  rintro e w1 ⟨rfl, x1⟩
  obtain ⟨c0, c1⟩ := (KE.out _ x1).2.cells
  go_wp2_with fail
  refine (few_any _ _ _ V L (KE.out _ x1).1 300 (by decide)).mono ?_
  rintro r w2 ⟨⟨r, rfl, hf⟩, y2⟩
  have X2 : Ext w0 w2 := x1.trans y2
  clear c0 c1
  cases r with
  | false =>
    clear hf
    go_wp2_with fail
    refine (first14_any _).mono ?_
    rintro e w3 ⟨rfl, x3⟩
    go_wp2_with fail
    go_ret
    exact ⟨rfl, (HW.out.2.2.trans X2).trans x3⟩
  | true =>
    have HS : Hid (Small L) := Lib.hid (by obtain ⟨f1, f2, f3⟩ := hf rfl; exact ⟨by omega, by omega, f3⟩)
    have HL : Hid (L.ev.length ≤ 300) := Lib.hid (hf rfl).1
    clear hf
    obtain ⟨c0, c1⟩ := (KE.out _ X2).2.cells
    go_wp2_with fail
    refine (may_any _ ve vp V L (KE.out _ X2).1).mono ?_
    rintro r w3 ⟨rfl, y3⟩
    have X3 : Ext w0 w3 := X2.trans y3
    clear c0 c1
    obtain ⟨B, hB⟩ : ∃ B, B = mayL L := ⟨_, rfl⟩
    rw [← hB]
    have HB := Lib.hid hB
    clear hB
    rcases (by cases B <;> simp <;> omega : B = false ∨ (B = true ∧ a < 0) ∨ (B = true ∧ 0 ≤ a ∧ 63 < a) ∨ (B = true ∧ 0 ≤ a ∧ a ≤ 63)) with z0 | ⟨z0, z1⟩ | ⟨z0, z1, z2⟩ | ⟨z0, z1, z2⟩
    case inr.inr.inr =>
      subst z0
      have hall := head_all HB.out.symm L.ev.length (Int.le_refl _)
      have HM : Hid (mayL (moreL L (evA a)) = true ∧ mayL (moreL L (evB a x)) = true ∧ mayL (moreL L (evC a x (-1))) = decide (x = 0) ∧ mayL (moreL L (evC a x L.ev.length)) = false) := Lib.hid (by
        unfold moreL
        rw [hall]
        have hl := HL.out
        exact ⟨more_A HB.out.symm (by omega) z1 z2, more_B HB.out.symm (by omega) z1 z2 x, more_C HB.out.symm (by omega) z1 z2 x, more_D HB.out.symm (by omega) z1 z2 x⟩)
      clear hall
      (try clear c0 c1)
      obtain ⟨c0, c1⟩ := (KE.out _ X3).2.cells
      go_wp2_with fail
      refine (more_any _ ve vp V L (KE.out _ X3).1 HS.out (evA a) ⟨_, _, _⟩ (evA_at _ HA.out)).mono ?_
      rintro r v7 ⟨hv7, pv7, V7, rfl, l7, y7⟩
      have q7a := Sl.cells_eq l7.row
      have q7b := Sl.cells_eq l7.prow
      have t1 := Sl.run_st (P := Try.prog) l7.row
      have t2 := Sl.run_st (P := Try.prog) l7.prow
      have H7 := Lib.hid (And.intro l7 y7)
      clear l7 y7 c0 c1
      go_upto_region 6 with fail
      obtain ⟨w7, hw7⟩ : ∃ w, w = v7.alloc (.cells #[hv7, pv7] 25) := ⟨_, rfl⟩
      obtain ⟨g7, hg7⟩ : ∃ g, g = v7.heap.size := ⟨_, rfl⟩
      have x7 : Ext v7 w7 := by rw [hw7]; exact (Mod.refl _ _).alloc _
      have b7 : LogBox w7 g7 hv7 pv7 := ⟨by rw [hw7, hg7]; exact heap_alloc_new _ _⟩
      rw [← hw7, ← hg7]
      have C7 := Lib.hid (show Ext w3 w7 from Mod.trans (Mod.refl NoF w3) (H7.out.2.trans x7))
      have E7 : Ext w0 w7 := X3.trans C7.out
      have KB7 : Hid (∀ w', Ext w7 w' → LogIn w' hv7 pv7 V7 (moreL L (evA a)) ∧ LogBox w' g7 hv7 pv7) := Lib.hid fun w' x => ⟨H7.out.1.ext (x7.trans x), b7.ext x⟩
      clear hw7 hg7 x7 b7 t1 t2
      (try clear c0 c1)
      obtain ⟨c0, c1⟩ := (KE.out _ E7).2.cells
      go_wp2_with fail
      refine (more_any _ ve vp V L (KE.out _ (Mod.alloc E7 _)).1 HS.out (evB a x) ⟨_, _, _⟩ (evB_at HA.out (heap_alloc_new _ _))).mono ?_
      rintro r v8 ⟨hv8, pv8, V8, rfl, l8, y8⟩
      have q8a := Sl.cells_eq l8.row
      have q8b := Sl.cells_eq l8.prow
      have t1 := Sl.run_st (P := Try.prog) l8.row
      have t2 := Sl.run_st (P := Try.prog) l8.prow
      have H8 := Lib.hid (And.intro l8 y8)
      clear l8 y8 c0 c1
      go_upto_region 7 with fail
      obtain ⟨w8, hw8⟩ : ∃ w, w = v8.alloc (.cells #[hv8, pv8] 25) := ⟨_, rfl⟩
      obtain ⟨g8, hg8⟩ : ∃ g, g = v8.heap.size := ⟨_, rfl⟩
      have x8 : Ext v8 w8 := by rw [hw8]; exact (Mod.refl _ _).alloc _
      have b8 : LogBox w8 g8 hv8 pv8 := ⟨by rw [hw8, hg8]; exact heap_alloc_new _ _⟩
      rw [← hw8, ← hg8]
      have C8 := Lib.hid (show Ext w7 w8 from Mod.trans (Mod.alloc (Mod.refl NoF w7) _) (H8.out.2.trans x8))
      have E8 : Ext w0 w8 := E7.trans C8.out
      have KB8 : Hid (∀ w', Ext w8 w' → LogIn w' hv8 pv8 V8 (moreL L (evB a x)) ∧ LogBox w' g8 hv8 pv8) := Lib.hid fun w' x => ⟨H8.out.1.ext (x8.trans x), b8.ext x⟩
      clear hw8 hg8 x8 b8 t1 t2
      (try clear c0 c1)
      obtain ⟨c0, c1⟩ := (KE.out _ E8).2.cells
      go_wp2_with fail
      refine (more_any _ ve vp V L (KE.out _ (Mod.alloc (Mod.alloc E8 _) _)).1 HS.out (evC a x (-1)) ⟨_, _, _⟩ (evC_at HA.out (i64_c _ (by decide)) (heap_alloc2_old _ _ _) (heap_alloc2_new _ _ _))).mono ?_
      rintro r v9 ⟨hv9, pv9, V9, rfl, l9, y9⟩
      have q9a := Sl.cells_eq l9.row
      have q9b := Sl.cells_eq l9.prow
      have t1 := Sl.run_st (P := Try.prog) l9.row
      have t2 := Sl.run_st (P := Try.prog) l9.prow
      have H9 := Lib.hid (And.intro l9 y9)
      clear l9 y9 c0 c1
      go_upto_region 8 with fail
      obtain ⟨w9, hw9⟩ : ∃ w, w = v9.alloc (.cells #[hv9, pv9] 25) := ⟨_, rfl⟩
      obtain ⟨g9, hg9⟩ : ∃ g, g = v9.heap.size := ⟨_, rfl⟩
      have x9 : Ext v9 w9 := by rw [hw9]; exact (Mod.refl _ _).alloc _
      have b9 : LogBox w9 g9 hv9 pv9 := ⟨by rw [hw9, hg9]; exact heap_alloc_new _ _⟩
      rw [← hw9, ← hg9]
      have C9 := Lib.hid (show Ext w8 w9 from Mod.trans (Mod.alloc (Mod.alloc (Mod.refl NoF w8) _) _) (H9.out.2.trans x9))
      have E9 : Ext w0 w9 := E8.trans C9.out
      have KB9 : Hid (∀ w', Ext w9 w' → LogIn w' hv9 pv9 V9 (moreL L (evC a x (-1))) ∧ LogBox w' g9 hv9 pv9) := Lib.hid fun w' x => ⟨H9.out.1.ext (x9.trans x), b9.ext x⟩
      clear hw9 hg9 x9 b9 t1 t2
      (try clear c0 c1)
      obtain ⟨c0, c1⟩ := (KE.out _ E9).2.cells
      have c2 := (KE.out _ (Mod.alloc E9 (.cells #[.int .u8 (x.toNat : Int)] 5))).2.cells.1
      go_wp2_with fail
      clear c2
      refine (more_any _ ve vp V L (KE.out _ (Mod.alloc (Mod.alloc E9 _) _)).1 HS.out (evC a x L.ev.length) ⟨_, _, _⟩ (evC_at HA.out (i64_len (KE.out _ E9).1.row) (heap_alloc2_old _ _ _) (heap_alloc2_new _ _ _))).mono ?_
      rintro r v10 ⟨hv10, pv10, V10, rfl, l10, y10⟩
      have q10a := Sl.cells_eq l10.row
      have q10b := Sl.cells_eq l10.prow
      have t1 := Sl.run_st (P := Try.prog) l10.row
      have t2 := Sl.run_st (P := Try.prog) l10.prow
      have H10 := Lib.hid (And.intro l10 y10)
      clear l10 y10 c0 c1
      go_upto_region 9 with fail
      obtain ⟨w10, hw10⟩ : ∃ w, w = v10.alloc (.cells #[hv10, pv10] 25) := ⟨_, rfl⟩
      obtain ⟨g10, hg10⟩ : ∃ g, g = v10.heap.size := ⟨_, rfl⟩
      have x10 : Ext v10 w10 := by rw [hw10]; exact (Mod.refl _ _).alloc _
      have b10 : LogBox w10 g10 hv10 pv10 := ⟨by rw [hw10, hg10]; exact heap_alloc_new _ _⟩
      rw [← hw10, ← hg10]
      have C10 := Lib.hid (show Ext w9 w10 from Mod.trans (Mod.alloc (Mod.alloc (Mod.refl NoF w9) _) _) (H10.out.2.trans x10))
      have E10 : Ext w0 w10 := E9.trans C10.out
      have KB10 : Hid (∀ w', Ext w10 w' → LogIn w' hv10 pv10 V10 (moreL L (evC a x L.ev.length)) ∧ LogBox w' g10 hv10 pv10) := Lib.hid fun w' x => ⟨H10.out.1.ext (x10.trans x), b10.ext x⟩
      clear hw10 hg10 x10 b10 t1 t2
      by_cases hx0 : x = 0
      case' pos =>
        have hx1 : ((x.toNat : Int) == 0) = true := by subst hx0; rfl
        have hx2 : decide (x = 0) = true := by simpa using hx0
      case' neg =>
        have hx1 : ((x.toNat : Int) == 0) = false := by have := u8_nz x; rw [bne] at this; simp [hx0] at this; simpa using this
        have hx2 : decide (x = 0) = false := by simpa using hx0
      all_goals
        rw [hx2] at HM
        clear hx0 hx2
        go_wp2_with fail
        refine (first14_any _).mono ?_
        rintro r wb ⟨rfl, yb⟩
        have F7 : Ext w7 wb := ((C8.out.trans C9.out).trans C10.out).trans yb
        have F8 : Ext w8 wb := (C9.out.trans C10.out).trans yb
        have F9 : Ext w9 wb := C10.out.trans yb
        have F10 : Ext w10 wb := yb
        obtain ⟨c0, c1⟩ := (KB7.out _ F7).2.cells
        go_wp2_with fail
        refine (may_any _ hv7 pv7 V7 _ (KB7.out _ F7).1).mono ?_
        rintro r wc ⟨rfl, z7⟩
        rw [HM.out.1]
        clear c0 c1
        replace F7 := F7.trans z7
        replace F8 := F8.trans z7
        replace F9 := F9.trans z7
        replace F10 := F10.trans z7
        obtain ⟨c0, c1⟩ := (KB8.out _ F8).2.cells
        go_wp2_with fail
        refine (may_any _ hv8 pv8 V8 _ (KB8.out _ F8).1).mono ?_
        rintro r wd ⟨rfl, z8⟩
        rw [HM.out.2.1]
        clear c0 c1
        replace F7 := F7.trans z8
        replace F8 := F8.trans z8
        replace F9 := F9.trans z8
        replace F10 := F10.trans z8
        obtain ⟨c0, c1⟩ := (KB9.out _ F9).2.cells
        go_wp2_with fail
        refine (may_any _ hv9 pv9 V9 _ (KB9.out _ F9).1).mono ?_
        rintro r we ⟨rfl, z9⟩
        rw [HM.out.2.2.1]
        clear c0 c1
        replace F7 := F7.trans z9
        replace F8 := F8.trans z9
        replace F9 := F9.trans z9
        replace F10 := F10.trans z9
        obtain ⟨c0, c1⟩ := (KB10.out _ F10).2.cells
        go_wp2_with fail
        refine (may_any _ hv10 pv10 V10 _ (KB10.out _ F10).1).mono ?_
        rintro r wf ⟨rfl, z10⟩
        rw [HM.out.2.2.2]
        clear c0 c1
        replace F7 := F7.trans z10
        replace F8 := F8.trans z10
        replace F9 := F9.trans z10
        replace F10 := F10.trans z10
        go_wp2_with fail
        go_ret
        exact ⟨rfl, (HW.out.2.2.trans E7).trans F7⟩
    all_goals
      subst z0
      go_wp2_with fail
      refine (first14_any _).mono ?_
      rintro e w4 ⟨rfl, x4⟩
      go_wp2_with fail
      go_ret
      exact ⟨rfl, (HW.out.2.2.trans X3).trans x4⟩
end Go.Proofs.Ytkibdabbjbcboaa
