/-
  The contract of renref14.SameEvent. No condition.
-/
import Derived.Test.YtkibdabbjbcboaaRvAt
import Derived.Test.YtkibdabbjbcboaaEvSame
import Derived.Test.YtkibdabbjbcboaaBaseBy
import Derived.Test.YtkibdabbjbcboaaBaseIn
namespace Go.Proofs.Ytkibdabbjbcboaa
open Go.Ren Go.RowKit
set_option linter.unusedVariables false
set_option maxRecDepth 100000 in
set_option maxHeartbeats 3200000 in
theorem ralike_any (w : World) (a b : Ev) (v u : Vs) (ha : EvAt w a v) (hb : EvAt w b u) :
    Calls Try.prog 59 #[evV a v, evV b u] w (FPost (evSame a b) w) := by
  obtain ⟨k1, k2, k3, t1, t2, t3⟩ := ev_facts ha
  obtain ⟨k4, k5, k6, t4, t5, t6⟩ := ev_facts hb
  obtain ⟨w0, hw0⟩ : ∃ w0, w0 = (w.alloc (.cells (evArr a v) 49)).alloc (.cells (evArr b u) 49) := ⟨_, rfl⟩
  obtain ⟨g, hg⟩ : ∃ g, g = w.heap.size := ⟨_, rfl⟩
  have x0 : Ext w w0 := by rw [hw0]; exact ((Mod.refl _ _).alloc _).alloc _
  have b0 : REvBox w0 g a v := ⟨by rw [hw0, hg]; exact heap_alloc2_old _ _ _⟩
  have b1 : REvBox w0 (g + 1) b u := ⟨by rw [hw0, hg]; exact heap_alloc2_new _ _ _⟩
  obtain ⟨c0, c1, c2, c3, c4, c5, c6, c7, c8, c9⟩ := b0.cells
  obtain ⟨d0, d1, d2, d3, d4, d5, d6, d7, d8, d9⟩ := b1.cells
  have HW := Lib.hid (And.intro hw0 (And.intro hg (And.intro x0 (And.intro (ha.ext x0) (hb.ext x0)))))
  obtain ⟨B, hB⟩ : ∃ B, B = evSame a b := ⟨_, rfl⟩
  rw [← hB]
  have HB := Lib.hid hB
  clear hB hw0 hg x0 b0 b1 ha hb
  unfold evV
  by_cases hs : a.ag = b.ag ∧ a.kind = b.kind ∧ a.seq = b.seq ∧ a.nt = b.nt ∧ a.blk = b.blk ∧ a.at_ = b.at_ ∧ a.size = b.size
  case neg =>
    have hf : evSame a b = false := by unfold evSame; simp [hs]
    have HF := Lib.hid hf
    clear hf
    have HS := Lib.hid hs
    clear hs
    go_enter Try.func59, Try.ntmps59
    go_upto_region 1 with fail
    rw [← HW.out.1, ← HW.out.2.1]
    clear t1 t2 t3 t4 t5 t6 k1 k2 k3 k4 k5 k6
    go_wp2_with fail
    all_goals
      first
      | (exfalso; have h := HS.out; simp_all; done)
      | (go_ret; exact ⟨ret_bool (by rw [HB.out]; exact HF.out.symm), HW.out.2.2.1⟩)
  case pos =>
    obtain ⟨h1, h2, h3, h4, h5, h6, h7⟩ := hs
    have n1 : (a.ag == b.ag) = true := by simpa using h1
    have n2 : (a.kind == b.kind) = true := by simpa using h2
    have n3 : (a.seq == b.seq) = true := by simpa using h3
    have n4 : (a.nt == b.nt) = true := by simpa using h4
    have n5 : (a.blk == b.blk) = true := by simpa using h5
    have n6 : (a.at_ == b.at_) = true := by simpa using h6
    have n7 : (a.size == b.size) = true := by simpa using h7
    have he : evSame a b = ((a.rd == b.rd) && (a.wr == b.wr) && (a.fr == b.fr)) := by unfold evSame; simp [h1, h2, h3, h4, h5, h6, h7]
    have HE := Lib.hid he
    clear h1 h2 h3 h4 h5 h6 h7 he
    go_enter Try.func59, Try.ntmps59
    go_upto_region 1 with fail
    rw [← HW.out.1, ← HW.out.2.1]
    clear t1 t2 t3 t4 t5 t6 k1 k2 k3 k4 k5 k6
    go_wp2_with fail
    refine (bytes_any _ _ _ a.rd b.rd HW.out.2.2.2.1.rd HW.out.2.2.2.2.rd).mono ?_
    rintro r w1 ⟨rfl, rfl⟩
    cases r1 : (a.rd == b.rd) with
    | false =>
      have H1 := Lib.hid r1
      clear r1
      go_wp2_with fail
      go_ret
      exact ⟨ret_bool (by rw [HB.out, HE.out, H1.out]; rfl), HW.out.2.2.1⟩
    | true =>
      have H1 := Lib.hid r1
      clear r1
      go_wp2_with fail
      refine (bytes_any _ _ _ a.wr b.wr HW.out.2.2.2.1.wr HW.out.2.2.2.2.wr).mono ?_
      rintro r w1 ⟨rfl, rfl⟩
      cases r2 : (a.wr == b.wr) with
      | false =>
        have H2 := Lib.hid r2
        clear r2
        go_wp2_with fail
        go_ret
        exact ⟨ret_bool (by rw [HB.out, HE.out, H1.out, H2.out]; rfl), HW.out.2.2.1⟩
      | true =>
        have H2 := Lib.hid r2
        clear r2
        go_wp2_with fail
        refine (ints_any _ _ _ a.fr b.fr HW.out.2.2.2.1.fr HW.out.2.2.2.2.fr).mono ?_
        rintro r w1 ⟨rfl, dn, rfl⟩
        go_wp2_with fail
        go_ret
        exact ⟨ret_bool (by rw [HB.out, HE.out, H1.out, H2.out]; rfl), HW.out.2.2.1.drewN dn⟩

end Go.Proofs.Ytkibdabbjbcboaa
