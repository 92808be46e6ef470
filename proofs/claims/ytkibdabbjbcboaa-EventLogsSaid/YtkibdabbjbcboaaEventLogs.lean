/-
  EventLogs: the walk of renlaw14.EventLogs. No condition.
-/
import Derived.Test.YtkibdabbjbcboaaRvHead
import Derived.Test.YtkibdabbjbcboaaRvLogF
import Derived.Test.YtkibdabbjbcboaaRvLogSame
import Derived.Test.YtkibdabbjbcboaaEvFirst
import Derived.Test.YtkibdabbjbcboaaEvTool
namespace Go.Proofs.Ytkibdabbjbcboaa
open Go.Ren Go.RowKit
set_option linter.unusedVariables false
theorem logArr_all {a b : Value} (h1 : a.oneCell' = true) (h2 : b.oneCell' = true) : (#[a, b] : Array Value).all (·.oneCell') = true := by simp [h1, h2]
theorem rhead_in {w w' : World} {ve vp hv pv : Value} {V V' : Nat → Vs} {L : Lg} {n : Int} (h : LogIn w ve vp V L) (o : RLogOwn w' hv pv V' (headL L n)) : LogIn w' hv pv V' (headL L n) :=
  o.in_ (fun i hi => by rw [head_evn hi]; rw [head_evlen] at hi; exact (h.ev i (by have := headN_le L n; omega)).ok) (fun i hi => by obtain ⟨j, hj, e⟩ := head_prmem hi; rw [e]; exact h.pok j hj)
def LogsRel (w0 : World) (vp up : Value) (V U : Nat → Vs) (L Lk : Lg) (s7 s8 : Value) (wx : World) : Prop := ∃ g7 g8 hx hy, s7 = .pointer (some ⟨g7, 0, none⟩) ∧ s8 = .pointer (some ⟨g8, 0, none⟩) ∧ RLogBox wx g7 hx vp ∧ RLogBox wx g8 hy up ∧ LogIn wx hx vp V L ∧ LogIn wx hy up U Lk ∧ Ext w0 wx
/-- While the head's numbers are turned. -/
structure NegRel (wb : World) (V : Nat → Vs) (H : Lg) (wr : World) : Prop where
  md : Mod (fun q => ∃ i, i < H.ev.length ∧ (V i).f.ownBlock = some q) wb wr
  ce : ∀ i k, i < H.ev.length → k < (evn H.ev i).fr.length → (∃ x, wr.cell? (at_ (V i).f k) = some x) ∧ wr.frozen? (at_ (V i).f k) = false
theorem NegRel.start {wb : World} {hv pv : Value} {V : Nat → Vs} {H : Lg} (h : LogOwn wb hv pv V H) : NegRel wb V H wb :=
  ⟨Mod.refl _ _, fun i k hi hk => ⟨⟨_, (h.ev i hi).fr.sl.cell k (iv (evn H.ev i).fr[k]) (by simp [hk])⟩, (h.ev i hi).fr.frozen k (by omega)⟩⟩
theorem NegRel.step {wb wr : World} {hv pv : Value} {V : Nat → Vs} {H : Lg} (h : LogOwn wb hv pv V H) (r : NegRel wb V H wr) {i k : Nat} (hi : i < H.ev.length) (hk : k < (evn H.ev i).fr.length) (x : Value) : NegRel wb V H (wr.setCell (at_ (V i).f k) x) := by
  refine ⟨r.md.trans (Mod.setCell (F := fun q => ∃ i, i < H.ev.length ∧ (V i).f.ownBlock = some q) (Mod.refl _ _) (.inl ⟨i, hi, (h.ev i hi).fr.at_block (by omega) k⟩) _), fun j m hj hm => ?_⟩
  obtain ⟨⟨y, hy⟩, hf⟩ := r.ce j m hj hm
  exact ⟨cell?_setCell_some hy, by rw [World.frozen?_setCell]; exact hf⟩
theorem NegRel.row {wb wr : World} {hv pv : Value} {V : Nat → Vs} {H : Lg} (h : LogOwn wb hv pv V H) (r : NegRel wb V H wr) : Sl wr hv 10 H.ev.length (flat 10 H.ev.length (fun i j => evcell (evn H.ev i) (V i) j)) :=
  (h.row.mod r.md (fun q hq ⟨i, hi, hl⟩ => h.row.apart (h.ev i hi).fr (by decide) hq hl)).sl
theorem NegRel.box {wb wr : World} {hv pv : Value} {V : Nat → Vs} {H : Lg} {g : Nat} (h : LogOwn wb hv pv V H) (b : LogBox wb g hv pv) (r : NegRel wb V H wr) : LogBox wr g hv pv :=
  ⟨r.md.blk b.b (fun ⟨i, hi, hl⟩ => (h.ev i hi).fr.apart_obj b.b (by decide) hl)⟩
set_option maxRecDepth 100000 in
set_option maxHeartbeats 8000000 in
theorem eventLogs_all (w : World) (ve vp ue up : Value) (V U : Nat → Vs) (L Lk : Lg) (h1 : LogIn w ve vp V L) (h2 : LogIn w ue up U Lk) (n : Int) (hn : I64 n) :
    Calls Try.prog 8 #[.agg #[ve, vp], .agg #[ue, up], .int .i64 n] w (FPost true w) := by
  have q1 := Sl.cells_eq h1.row
  have q2 := Sl.cells_eq h1.prow
  have q3 := Sl.cells_eq h2.row
  have q4 := Sl.cells_eq h2.prow
  have s1 := Sl.run_st (P := Try.prog) h1.row
  have s2 := Sl.run_st (P := Try.prog) h1.prow
  have s3 := Sl.run_st (P := Try.prog) h2.row
  have s4 := Sl.run_st (P := Try.prog) h2.prow
  have ovp := Sl.one h1.prow
  have oup := Sl.one h2.prow
  obtain ⟨w0, hw0⟩ : ∃ w0, w0 = (w.alloc (.cells #[ve, vp] 25)).alloc (.cells #[ue, up] 25) := ⟨_, rfl⟩
  obtain ⟨g, hg⟩ : ∃ g, g = w.heap.size := ⟨_, rfl⟩
  have x0 : Ext w w0 := by rw [hw0]; exact ((Mod.refl _ _).alloc _).alloc _
  have b0 : LogBox w0 g ve vp := ⟨by rw [hw0, hg]; exact heap_alloc2_old _ _ _⟩
  have b1 : LogBox w0 (g + 1) ue up := ⟨by rw [hw0, hg]; exact heap_alloc2_new _ _ _⟩
  have HW := Lib.hid (And.intro hw0 (And.intro hg x0))
  have KE : Hid (∀ w', Ext w0 w' → LogIn w' ve vp V L ∧ LogIn w' ue up U Lk ∧ LogBox w' g ve vp ∧ LogBox w' (g + 1) ue up) := Lib.hid fun w' x => ⟨h1.ext (x0.trans x), h2.ext (x0.trans x), b0.ext x, b1.ext x⟩
  have HI := Lib.hid hn
  clear hw0 hg x0 b0 b1 h1 h2 hn
  go_enter Try.func8, Try.ntmps8
  go_upto_region 1 with fail
  rw [← HW.out.1, ← HW.out.2.1]
  clear s1 s2 s3 s4
  go_wp2_with fail
  refine (first14_any _).mono ?_
  rintro e w1 ⟨rfl, x1⟩
  obtain ⟨c0, c1⟩ := (KE.out _ x1).2.2.1.cells
  go_wp2_with fail
  refine (few_any _ _ _ V L (KE.out _ x1).1 300 (by decide)).mono ?_
  rintro r w2 ⟨⟨r, rfl, hf⟩, y2⟩
  have X2 : Ext w0 w2 := x1.trans y2
  clear c0 c1
  cases r with
  | false =>
    clear hf
    go_wp2_with fail
    refine (first14_any _).mono ?_
    rintro e w3 ⟨rfl, x3⟩
    go_wp2_with fail
    go_ret
    exact ⟨rfl, (HW.out.2.2.trans X2).trans x3⟩
  | true =>
    have HSA : Hid (Small L) := Lib.hid (by obtain ⟨f1, f2, f3⟩ := hf rfl; exact ⟨by omega, by omega, f3⟩)
    have HX2 := Lib.hid X2
    obtain ⟨d0, d1⟩ := (KE.out _ X2).2.2.2.cells
    clear hf x1 y2 X2
    go_wp2_with fail
    refine (few_any _ _ _ U Lk (KE.out _ HX2.out).2.1 300 (by decide)).mono ?_
    rintro r w2' ⟨⟨r, rfl, hf⟩, y2⟩
    have X2 : Ext w0 w2' := HX2.out.trans y2
    clear d0 d1
    cases r with
    | false =>
      clear hf
      go_wp2_with fail
      refine (first14_any _).mono ?_
      rintro e w3 ⟨rfl, x3⟩
      go_wp2_with fail
      go_ret
      exact ⟨rfl, (HW.out.2.2.trans X2).trans x3⟩
    | true =>
      have HS : Hid (Small L ∧ Small Lk) := Lib.hid ⟨HSA.out, by obtain ⟨f1, f2, f3⟩ := hf rfl; exact ⟨by omega, by omega, f3⟩⟩
      have HSL : Hid (L.ev.length ≤ 1000 ∧ Lk.ev.length ≤ 1000) := Lib.hid ⟨HS.out.1.ev, HS.out.2.ev⟩
      have HSM : Hid (SmL L) := Lib.hid HS.out.1.ls
      clear hf y2
      go_upto_region 5 with fail
      go_cut [7, 8] (fun s7 s8 wx => LogsRel w0 vp up V U L Lk s7 s8 wx)
      case first =>
        refine wp_region_planT [6, 7] (.take 0 0 (.take 2 0 (.fork (.alt 1 (.fork (.alt 3 (.fork (.alt 4 (.fork (.alt 5 (.fork (.alt 6 (.fork (.alt 7 .nil .noalt)) .noalt)) .noalt)) (.alt 5 (.fork (.alt 4 (.fork (.alt 6 (.fork (.alt 7 .nil .noalt)) .noalt)) .noalt)) .noalt))) (.alt 4 (.fork (.alt 3 (.fork (.alt 5 (.fork (.alt 6 (.fork (.alt 7 .nil .noalt)) .noalt)) .noalt)) (.alt 5 (.fork (.alt 3 (.fork (.alt 6 (.fork (.alt 7 .nil .noalt)) .noalt)) .noalt)) .noalt))) (.alt 5 (.fork (.alt 3 (.fork (.alt 4 (.fork (.alt 6 (.fork (.alt 7 .nil .noalt)) .noalt)) .noalt)) (.alt 4 (.fork (.alt 3 (.fork (.alt 6 (.fork (.alt 7 .nil .noalt)) .noalt)) .noalt)) .noalt))) .noalt)))) (.alt 4 (.fork (.alt 1 (.fork (.alt 3 (.fork (.alt 5 (.fork (.alt 6 (.fork (.alt 7 .nil .noalt)) .noalt)) .noalt)) (.alt 5 (.fork (.alt 3 (.fork (.alt 6 (.fork (.alt 7 .nil .noalt)) .noalt)) .noalt)) .noalt))) (.alt 5 (.fork (.alt 1 (.fork (.alt 3 (.fork (.alt 6 (.fork (.alt 7 .nil .noalt)) .noalt)) .noalt)) .noalt)) .noalt))) (.alt 5 (.fork (.alt 1 (.fork (.alt 3 (.fork (.alt 4 (.fork (.alt 6 (.fork (.alt 7 .nil .noalt)) .noalt)) .noalt)) (.alt 4 (.fork (.alt 3 (.fork (.alt 6 (.fork (.alt 7 .nil .noalt)) .noalt)) .noalt)) .noalt))) (.alt 4 (.fork (.alt 1 (.fork (.alt 3 (.fork (.alt 6 (.fork (.alt 7 .nil .noalt)) .noalt)) .noalt)) .noalt)) .noalt))) .noalt)))))) (fun w' => w'.cell? ⟨g, 0, none⟩ = some ve ∧ w'.cell? ⟨g, 1, none⟩ = some vp ∧ w'.cell? ⟨g + 1, 0, none⟩ = some ue ∧ w'.cell? ⟨g + 1, 1, none⟩ = some up) (by kernel_rfl) (by kernel_rfl) (by kernel_rfl) (fun _ d _ _ _ h => by cases d <;> exact h) (⟨(KE.out _ (Mod.drew X2)).2.2.1.cells.1, (KE.out _ (Mod.drew X2)).2.2.1.cells.2, (KE.out _ (Mod.drew X2)).2.2.2.cells.1, (KE.out _ (Mod.drew X2)).2.2.2.cells.2⟩) ?_
        simp (decide := true) only [planT, getO]
        (refine planT_take (v := ?_) (by rfl) (fun wS hS => ?_) ?_; rotate_left; (focus ((try dsimp only at hS); go_simp; (try with_reducible rfl); done)); (try simp only [Act.put, List.setIfInBounds_toArray, List.set_cons_zero, List.set_cons_succ]))
        (refine planT_take (v := ?_) (by rfl) (fun wS hS => ?_) ?_; rotate_left; (focus ((try dsimp only at hS); go_simp; (try with_reducible rfl); done)); (try simp only [Act.put, List.setIfInBounds_toArray, List.set_cons_zero, List.set_cons_succ]))
        refine planT_fork ?_
        refine planT_alt (fun K hK => ?_) ?_
        · go_simp
          go_at_call 20
          refine (rlogf_any _ ve vp V L (KE.out _ (Mod.drew X2)).1 HSL.out.1).mono ?_
          rintro r w1 ⟨hv1, rfl, lh1, y1, fr1⟩
          have HL1 := Lib.hid (And.intro lh1.row (fun (q : Nat) (hq : fp hv1 q) => (And.intro (fr1 q (fp_ob hq)) (Sl.lt lh1.row (by decide) hq))))
          have on1 := Sl.one lh1.row
          clear lh1 fr1
          have E1 : Ext w0 w1 := Mod.trans (Mod.drew X2) y1
          refine hK.out _ _ (⟨(KE.out _ E1).2.2.1.cells.1, (KE.out _ E1).2.2.1.cells.2, (KE.out _ E1).2.2.2.cells.1, (KE.out _ E1).2.2.2.cells.2⟩) ?_
          clear hK K
          (try simp only [Act.put, List.setIfInBounds_toArray, List.set_cons_zero, List.set_cons_succ])
          refine planT_fork ?_
          refine planT_alt (fun K hK => ?_) ?_
          · go_simp
            go_at_call 20
            refine (rlogf_any _ ue up U Lk (KE.out _ E1).2.1 HSL.out.2).mono ?_
            rintro r w2 ⟨hv2, rfl, lh2, y2, fr2⟩
            have HL2 := Lib.hid (And.intro lh2.row (fun (q : Nat) (hq : fp hv2 q) => (And.intro (fr2 q (fp_ob hq)) (Sl.lt lh2.row (by decide) hq))))
            have on2 := Sl.one lh2.row
            clear lh2 fr2
            have E2 : Ext w0 w2 := Mod.trans E1 y2
            refine hK.out _ _ (⟨(KE.out _ E2).2.2.1.cells.1, (KE.out _ E2).2.2.1.cells.2, (KE.out _ E2).2.2.2.cells.1, (KE.out _ E2).2.2.2.cells.2⟩) ?_
            clear hK K
            (try simp only [Act.put, List.setIfInBounds_toArray, List.set_cons_zero, List.set_cons_succ])
            refine planT_fork ?_
            refine planT_alloc rfl rfl (fun w => Try.zeroValue35 w) rfl (fun g3 w3 y3 hg3 hs3 hb3 => ?_) ?_
            · have E3 : Ext w0 w3 := Mod.trans E2 y3
              have HG3 := Lib.hid (And.intro hg3 (And.intro hs3 (And.intro hb3 (And.intro E3 (And.intro y3 E2)))))
              clear hg3 hs3 hb3
              refine ⟨fun _ => ⟨(KE.out _ E3).2.2.1.cells.1, (KE.out _ E3).2.2.1.cells.2, (KE.out _ E3).2.2.2.cells.1, (KE.out _ E3).2.2.2.cells.2⟩, ?_⟩
              (try simp only [Act.put, List.setIfInBounds_toArray, List.set_cons_zero, List.set_cons_succ])
              refine planT_fork ?_
              refine planT_alloc rfl rfl (fun w => Try.zeroValue35 w) rfl (fun g4 w4 y4 hg4 hs4 hb4 => ?_) planT_end
              have E4 : Ext w0 w4 := Mod.trans E3 y4
              have HG4 := Lib.hid (And.intro hg4 (And.intro hs4 (And.intro hb4 (And.intro E4 (And.intro y4 E3)))))
              clear hg4 hs4 hb4
              refine ⟨fun _ => ⟨(KE.out _ E4).2.2.1.cells.1, (KE.out _ E4).2.2.1.cells.2, (KE.out _ E4).2.2.2.cells.1, (KE.out _ E4).2.2.2.cells.2⟩, ?_⟩
              (try simp only [Act.put, List.setIfInBounds_toArray, List.set_cons_zero, List.set_cons_succ])
              refine planT_fork ?_
              refine planT_store rfl rfl rfl rfl ((Ext.blk y4 HG3.out.2.2.1)) (by kernel_rfl) rfl (logArr_all (by assumption) ovp) (fun w5 m5 hs5 hb5 => ?_) planT_end
              have E5 : Ext w0 w5 := Mod.trans' E4 m5 (fun q hq => .inr (by obtain ⟨z3a, z3b, -, z3e, z3y, z3p⟩ := HG3.out; have z3f := z3e.size; have z3g := z3y.size; have z3q := z3p.size; obtain ⟨z4a, z4b, -, z4e, z4y, z4p⟩ := HG4.out; have z4f := z4e.size; have z4g := z4y.size; have z4q := z4p.size; have sy1 := y1.size; have sy2 := y2.size; have sy3 := y3.size; have sy4 := y4.size; subst hq; omega))
              have HG5 := Lib.hid (And.intro hs5 (And.intro hb5 m5))
              clear hs5 hb5
              refine ⟨fun h => (by cases h), ?_⟩
              (try simp only [Act.put])
              refine planT_fork ?_
              refine planT_store rfl rfl rfl rfl ((Mod.blk m5 HG4.out.2.2.1 (by obtain ⟨z3a, z3b, -, z3e, z3y, z3p⟩ := HG3.out; have z3f := z3e.size; have z3g := z3y.size; have z3q := z3p.size; obtain ⟨z4a, z4b, -, z4e, z4y, z4p⟩ := HG4.out; have z4f := z4e.size; have z4g := z4y.size; have z4q := z4p.size; have sy1 := y1.size; have sy2 := y2.size; have sy3 := y3.size; have sy4 := y4.size; omega))) (by kernel_rfl) rfl (logArr_all (by assumption) oup) (fun w6 m6 hs6 hb6 => ?_) planT_end
              have E6 : Ext w0 w6 := Mod.trans' E5 m6 (fun q hq => .inr (by obtain ⟨z3a, z3b, -, z3e, z3y, z3p⟩ := HG3.out; have z3f := z3e.size; have z3g := z3y.size; have z3q := z3p.size; obtain ⟨z4a, z4b, -, z4e, z4y, z4p⟩ := HG4.out; have z4f := z4e.size; have z4g := z4y.size; have z4q := z4p.size; have sy1 := y1.size; have sy2 := y2.size; have sy3 := y3.size; have sy4 := y4.size; subst hq; omega))
              have HG6 := Lib.hid (And.intro hs6 (And.intro hb6 m6))
              clear hs6 hb6
              refine ⟨fun h => (by cases h), ?_⟩
              (try simp only [Act.put])
              refine planT_nil ?_
              go_wp2_with fail
              go_meet
              exact ⟨g3, g4, hv1, hv2, rfl, rfl, ⟨(Mod.blk m6 HG5.out.2.1 (by obtain ⟨z3a, z3b, -, z3e, z3y, z3p⟩ := HG3.out; have z3f := z3e.size; have z3g := z3y.size; have z3q := z3p.size; obtain ⟨z4a, z4b, -, z4e, z4y, z4p⟩ := HG4.out; have z4f := z4e.size; have z4g := z4y.size; have z4q := z4p.size; have sy1 := y1.size; have sy2 := y2.size; have sy3 := y3.size; have sy4 := y4.size; omega))⟩, ⟨HG6.out.2.1⟩, ⟨(Sl.mod (Sl.mod (Sl.ext (Sl.ext (Sl.ext HL1.out.1 (by decide) y2) (by decide) y3) (by decide) y4) (by decide) m5 (fun q hq hl => by have hf := HL1.out.2 q hq; obtain ⟨z3a, z3b, -, z3e, z3y, z3p⟩ := HG3.out; have z3f := z3e.size; have z3g := z3y.size; have z3q := z3p.size; obtain ⟨z4a, z4b, -, z4e, z4y, z4p⟩ := HG4.out; have z4f := z4e.size; have z4g := z4y.size; have z4q := z4p.size; have sy1 := y1.size; have sy2 := y2.size; have sy3 := y3.size; have sy4 := y4.size; subst hl; simp only [World.size_drew] at *; omega)) (by decide) m6 (fun q hq hl => by have hf := HL1.out.2 q hq; obtain ⟨z3a, z3b, -, z3e, z3y, z3p⟩ := HG3.out; have z3f := z3e.size; have z3g := z3y.size; have z3q := z3p.size; obtain ⟨z4a, z4b, -, z4e, z4y, z4p⟩ := HG4.out; have z4f := z4e.size; have z4g := z4y.size; have z4q := z4p.size; have sy1 := y1.size; have sy2 := y2.size; have sy3 := y3.size; have sy4 := y4.size; subst hl; simp only [World.size_drew] at *; omega)), (KE.out _ E6).1.ev, (KE.out _ E6).1.prow, (KE.out _ E6).1.pok⟩, ⟨(Sl.mod (Sl.mod (Sl.ext (Sl.ext HL2.out.1 (by decide) y3) (by decide) y4) (by decide) m5 (fun q hq hl => by have hf := HL2.out.2 q hq; obtain ⟨z3a, z3b, -, z3e, z3y, z3p⟩ := HG3.out; have z3f := z3e.size; have z3g := z3y.size; have z3q := z3p.size; obtain ⟨z4a, z4b, -, z4e, z4y, z4p⟩ := HG4.out; have z4f := z4e.size; have z4g := z4y.size; have z4q := z4p.size; have sy1 := y1.size; have sy2 := y2.size; have sy3 := y3.size; have sy4 := y4.size; subst hl; simp only [World.size_drew] at *; omega)) (by decide) m6 (fun q hq hl => by have hf := HL2.out.2 q hq; obtain ⟨z3a, z3b, -, z3e, z3y, z3p⟩ := HG3.out; have z3f := z3e.size; have z3g := z3y.size; have z3q := z3p.size; obtain ⟨z4a, z4b, -, z4e, z4y, z4p⟩ := HG4.out; have z4f := z4e.size; have z4g := z4y.size; have z4q := z4p.size; have sy1 := y1.size; have sy2 := y2.size; have sy3 := y3.size; have sy4 := y4.size; subst hl; simp only [World.size_drew] at *; omega)), (KE.out _ E6).2.1.ev, (KE.out _ E6).2.1.prow, (KE.out _ E6).2.1.pok⟩, E6⟩
            refine planT_alloc rfl rfl (fun w => Try.zeroValue35 w) rfl (fun g7 w7 y7 hg7 hs7 hb7 => ?_) planT_end
            have E7 : Ext w0 w7 := Mod.trans E2 y7
            have HG7 := Lib.hid (And.intro hg7 (And.intro hs7 (And.intro hb7 (And.intro E7 (And.intro y7 E2)))))
            clear hg7 hs7 hb7
            refine ⟨fun _ => ⟨(KE.out _ E7).2.2.1.cells.1, (KE.out _ E7).2.2.1.cells.2, (KE.out _ E7).2.2.2.cells.1, (KE.out _ E7).2.2.2.cells.2⟩, ?_⟩
            (try simp only [Act.put, List.setIfInBounds_toArray, List.set_cons_zero, List.set_cons_succ])
            refine planT_fork ?_
            refine planT_alloc rfl rfl (fun w => Try.zeroValue35 w) rfl (fun g8 w8 y8 hg8 hs8 hb8 => ?_) planT_end
            have E8 : Ext w0 w8 := Mod.trans E7 y8
            have HG8 := Lib.hid (And.intro hg8 (And.intro hs8 (And.intro hb8 (And.intro E8 (And.intro y8 E7)))))
            clear hg8 hs8 hb8
            refine ⟨fun _ => ⟨(KE.out _ E8).2.2.1.cells.1, (KE.out _ E8).2.2.1.cells.2, (KE.out _ E8).2.2.2.cells.1, (KE.out _ E8).2.2.2.cells.2⟩, ?_⟩
            (try simp only [Act.put, List.setIfInBounds_toArray, List.set_cons_zero, List.set_cons_succ])
            refine planT_fork ?_
            refine planT_store rfl rfl rfl rfl (HG8.out.2.2.1) (by kernel_rfl) rfl (logArr_all (by assumption) ovp) (fun w9 m9 hs9 hb9 => ?_) planT_end
            have E9 : Ext w0 w9 := Mod.trans' E8 m9 (fun q hq => .inr (by obtain ⟨z7a, z7b, -, z7e, z7y, z7p⟩ := HG7.out; have z7f := z7e.size; have z7g := z7y.size; have z7q := z7p.size; obtain ⟨z8a, z8b, -, z8e, z8y, z8p⟩ := HG8.out; have z8f := z8e.size; have z8g := z8y.size; have z8q := z8p.size; have sy1 := y1.size; have sy2 := y2.size; have sy7 := y7.size; have sy8 := y8.size; subst hq; omega))
            have HG9 := Lib.hid (And.intro hs9 (And.intro hb9 m9))
            clear hs9 hb9
            refine ⟨fun h => (by cases h), ?_⟩
            (try simp only [Act.put])
            refine planT_fork ?_
            refine planT_store rfl rfl rfl rfl ((Mod.blk m9 (Ext.blk y8 HG7.out.2.2.1) (by obtain ⟨z7a, z7b, -, z7e, z7y, z7p⟩ := HG7.out; have z7f := z7e.size; have z7g := z7y.size; have z7q := z7p.size; obtain ⟨z8a, z8b, -, z8e, z8y, z8p⟩ := HG8.out; have z8f := z8e.size; have z8g := z8y.size; have z8q := z8p.size; have sy1 := y1.size; have sy2 := y2.size; have sy7 := y7.size; have sy8 := y8.size; omega))) (by kernel_rfl) rfl (logArr_all (by assumption) oup) (fun w10 m10 hs10 hb10 => ?_) planT_end
            have E10 : Ext w0 w10 := Mod.trans' E9 m10 (fun q hq => .inr (by obtain ⟨z7a, z7b, -, z7e, z7y, z7p⟩ := HG7.out; have z7f := z7e.size; have z7g := z7y.size; have z7q := z7p.size; obtain ⟨z8a, z8b, -, z8e, z8y, z8p⟩ := HG8.out; have z8f := z8e.size; have z8g := z8y.size; have z8q := z8p.size; have sy1 := y1.size; have sy2 := y2.size; have sy7 := y7.size; have sy8 := y8.size; subst hq; omega))
            have HG10 := Lib.hid (And.intro hs10 (And.intro hb10 m10))
            clear hs10 hb10
            refine ⟨fun h => (by cases h), ?_⟩
            (try simp only [Act.put])
            refine planT_nil ?_
            go_wp2_with fail
            go_meet
            exact ⟨g8, g7, hv1, hv2, rfl, rfl, ⟨(Mod.blk m10 HG9.out.2.1 (by obtain ⟨z7a, z7b, -, z7e, z7y, z7p⟩ := HG7.out; have z7f := z7e.size; have z7g := z7y.size; have z7q := z7p.size; obtain ⟨z8a, z8b, -, z8e, z8y, z8p⟩ := HG8.out; have z8f := z8e.size; have z8g := z8y.size; have z8q := z8p.size; have sy1 := y1.size; have sy2 := y2.size; have sy7 := y7.size; have sy8 := y8.size; omega))⟩, ⟨HG10.out.2.1⟩, ⟨(Sl.mod (Sl.mod (Sl.ext (Sl.ext (Sl.ext HL1.out.1 (by decide) y2) (by decide) y7) (by decide) y8) (by decide) m9 (fun q hq hl => by have hf := HL1.out.2 q hq; obtain ⟨z7a, z7b, -, z7e, z7y, z7p⟩ := HG7.out; have z7f := z7e.size; have z7g := z7y.size; have z7q := z7p.size; obtain ⟨z8a, z8b, -, z8e, z8y, z8p⟩ := HG8.out; have z8f := z8e.size; have z8g := z8y.size; have z8q := z8p.size; have sy1 := y1.size; have sy2 := y2.size; have sy7 := y7.size; have sy8 := y8.size; subst hl; simp only [World.size_drew] at *; omega)) (by decide) m10 (fun q hq hl => by have hf := HL1.out.2 q hq; obtain ⟨z7a, z7b, -, z7e, z7y, z7p⟩ := HG7.out; have z7f := z7e.size; have z7g := z7y.size; have z7q := z7p.size; obtain ⟨z8a, z8b, -, z8e, z8y, z8p⟩ := HG8.out; have z8f := z8e.size; have z8g := z8y.size; have z8q := z8p.size; have sy1 := y1.size; have sy2 := y2.size; have sy7 := y7.size; have sy8 := y8.size; subst hl; simp only [World.size_drew] at *; omega)), (KE.out _ E10).1.ev, (KE.out _ E10).1.prow, (KE.out _ E10).1.pok⟩, ⟨(Sl.mod (Sl.mod (Sl.ext (Sl.ext HL2.out.1 (by decide) y7) (by decide) y8) (by decide) m9 (fun q hq hl => by have hf := HL2.out.2 q hq; obtain ⟨z7a, z7b, -, z7e, z7y, z7p⟩ := HG7.out; have z7f := z7e.size; have z7g := z7y.size; have z7q := z7p.size; obtain ⟨z8a, z8b, -, z8e, z8y, z8p⟩ := HG8.out; have z8f := z8e.size; have z8g := z8y.size; have z8q := z8p.size; have sy1 := y1.size; have sy2 := y2.size; have sy7 := y7.size; have sy8 := y8.size; subst hl; simp only [World.size_drew] at *; omega)) (by decide) m10 (fun q hq hl => by have hf := HL2.out.2 q hq; obtain ⟨z7a, z7b, -, z7e, z7y, z7p⟩ := HG7.out; have z7f := z7e.size; have z7g := z7y.size; have z7q := z7p.size; obtain ⟨z8a, z8b, -, z8e, z8y, z8p⟩ := HG8.out; have z8f := z8e.size; have z8g := z8y.size; have z8q := z8p.size; have sy1 := y1.size; have sy2 := y2.size; have sy7 := y7.size; have sy8 := y8.size; subst hl; simp only [World.size_drew] at *; omega)), (KE.out _ E10).2.1.ev, (KE.out _ E10).2.1.prow, (KE.out _ E10).2.1.pok⟩, E10⟩
          refine planT_alloc rfl rfl (fun w => Try.zeroValue35 w) rfl (fun g11 w11 y11 hg11 hs11 hb11 => ?_) ?_
          · have E11 : Ext w0 w11 := Mod.trans E1 y11
            have HG11 := Lib.hid (And.intro hg11 (And.intro hs11 (And.intro hb11 (And.intro E11 (And.intro y11 E1)))))
            clear hg11 hs11 hb11
            refine ⟨fun _ => ⟨(KE.out _ E11).2.2.1.cells.1, (KE.out _ E11).2.2.1.cells.2, (KE.out _ E11).2.2.2.cells.1, (KE.out _ E11).2.2.2.cells.2⟩, ?_⟩
            (try simp only [Act.put, List.setIfInBounds_toArray, List.set_cons_zero, List.set_cons_succ])
            refine planT_fork ?_
            refine planT_alt (fun K hK => ?_) ?_
            · go_simp
              go_at_call 20
              refine (rlogf_any _ ue up U Lk (KE.out _ E11).2.1 HSL.out.2).mono ?_
              rintro r w12 ⟨hv12, rfl, lh12, y12, fr12⟩
              have HL12 := Lib.hid (And.intro lh12.row (fun (q : Nat) (hq : fp hv12 q) => (And.intro (fr12 q (fp_ob hq)) (Sl.lt lh12.row (by decide) hq))))
              have on12 := Sl.one lh12.row
              clear lh12 fr12
              have E12 : Ext w0 w12 := Mod.trans E11 y12
              refine hK.out _ _ (⟨(KE.out _ E12).2.2.1.cells.1, (KE.out _ E12).2.2.1.cells.2, (KE.out _ E12).2.2.2.cells.1, (KE.out _ E12).2.2.2.cells.2⟩) ?_
              clear hK K
              (try simp only [Act.put, List.setIfInBounds_toArray, List.set_cons_zero, List.set_cons_succ])
              refine planT_fork ?_
              refine planT_alloc rfl rfl (fun w => Try.zeroValue35 w) rfl (fun g13 w13 y13 hg13 hs13 hb13 => ?_) planT_end
              have E13 : Ext w0 w13 := Mod.trans E12 y13
              have HG13 := Lib.hid (And.intro hg13 (And.intro hs13 (And.intro hb13 (And.intro E13 (And.intro y13 E12)))))
              clear hg13 hs13 hb13
              refine ⟨fun _ => ⟨(KE.out _ E13).2.2.1.cells.1, (KE.out _ E13).2.2.1.cells.2, (KE.out _ E13).2.2.2.cells.1, (KE.out _ E13).2.2.2.cells.2⟩, ?_⟩
              (try simp only [Act.put, List.setIfInBounds_toArray, List.set_cons_zero, List.set_cons_succ])
              refine planT_fork ?_
              refine planT_store rfl rfl rfl rfl ((Ext.blk y13 (Ext.blk y12 HG11.out.2.2.1))) (by kernel_rfl) rfl (logArr_all (by assumption) ovp) (fun w14 m14 hs14 hb14 => ?_) planT_end
              have E14 : Ext w0 w14 := Mod.trans' E13 m14 (fun q hq => .inr (by obtain ⟨z11a, z11b, -, z11e, z11y, z11p⟩ := HG11.out; have z11f := z11e.size; have z11g := z11y.size; have z11q := z11p.size; obtain ⟨z13a, z13b, -, z13e, z13y, z13p⟩ := HG13.out; have z13f := z13e.size; have z13g := z13y.size; have z13q := z13p.size; have sy1 := y1.size; have sy11 := y11.size; have sy12 := y12.size; have sy13 := y13.size; subst hq; omega))
              have HG14 := Lib.hid (And.intro hs14 (And.intro hb14 m14))
              clear hs14 hb14
              refine ⟨fun h => (by cases h), ?_⟩
              (try simp only [Act.put])
              refine planT_fork ?_
              refine planT_store rfl rfl rfl rfl ((Mod.blk m14 HG13.out.2.2.1 (by obtain ⟨z11a, z11b, -, z11e, z11y, z11p⟩ := HG11.out; have z11f := z11e.size; have z11g := z11y.size; have z11q := z11p.size; obtain ⟨z13a, z13b, -, z13e, z13y, z13p⟩ := HG13.out; have z13f := z13e.size; have z13g := z13y.size; have z13q := z13p.size; have sy1 := y1.size; have sy11 := y11.size; have sy12 := y12.size; have sy13 := y13.size; omega))) (by kernel_rfl) rfl (logArr_all (by assumption) oup) (fun w15 m15 hs15 hb15 => ?_) planT_end
              have E15 : Ext w0 w15 := Mod.trans' E14 m15 (fun q hq => .inr (by obtain ⟨z11a, z11b, -, z11e, z11y, z11p⟩ := HG11.out; have z11f := z11e.size; have z11g := z11y.size; have z11q := z11p.size; obtain ⟨z13a, z13b, -, z13e, z13y, z13p⟩ := HG13.out; have z13f := z13e.size; have z13g := z13y.size; have z13q := z13p.size; have sy1 := y1.size; have sy11 := y11.size; have sy12 := y12.size; have sy13 := y13.size; subst hq; omega))
              have HG15 := Lib.hid (And.intro hs15 (And.intro hb15 m15))
              clear hs15 hb15
              refine ⟨fun h => (by cases h), ?_⟩
              (try simp only [Act.put])
              refine planT_nil ?_
              go_wp2_with fail
              go_meet
              exact ⟨g11, g13, hv1, hv12, rfl, rfl, ⟨(Mod.blk m15 HG14.out.2.1 (by obtain ⟨z11a, z11b, -, z11e, z11y, z11p⟩ := HG11.out; have z11f := z11e.size; have z11g := z11y.size; have z11q := z11p.size; obtain ⟨z13a, z13b, -, z13e, z13y, z13p⟩ := HG13.out; have z13f := z13e.size; have z13g := z13y.size; have z13q := z13p.size; have sy1 := y1.size; have sy11 := y11.size; have sy12 := y12.size; have sy13 := y13.size; omega))⟩, ⟨HG15.out.2.1⟩, ⟨(Sl.mod (Sl.mod (Sl.ext (Sl.ext (Sl.ext HL1.out.1 (by decide) y11) (by decide) y12) (by decide) y13) (by decide) m14 (fun q hq hl => by have hf := HL1.out.2 q hq; obtain ⟨z11a, z11b, -, z11e, z11y, z11p⟩ := HG11.out; have z11f := z11e.size; have z11g := z11y.size; have z11q := z11p.size; obtain ⟨z13a, z13b, -, z13e, z13y, z13p⟩ := HG13.out; have z13f := z13e.size; have z13g := z13y.size; have z13q := z13p.size; have sy1 := y1.size; have sy11 := y11.size; have sy12 := y12.size; have sy13 := y13.size; subst hl; simp only [World.size_drew] at *; omega)) (by decide) m15 (fun q hq hl => by have hf := HL1.out.2 q hq; obtain ⟨z11a, z11b, -, z11e, z11y, z11p⟩ := HG11.out; have z11f := z11e.size; have z11g := z11y.size; have z11q := z11p.size; obtain ⟨z13a, z13b, -, z13e, z13y, z13p⟩ := HG13.out; have z13f := z13e.size; have z13g := z13y.size; have z13q := z13p.size; have sy1 := y1.size; have sy11 := y11.size; have sy12 := y12.size; have sy13 := y13.size; subst hl; simp only [World.size_drew] at *; omega)), (KE.out _ E15).1.ev, (KE.out _ E15).1.prow, (KE.out _ E15).1.pok⟩, ⟨(Sl.mod (Sl.mod (Sl.ext HL12.out.1 (by decide) y13) (by decide) m14 (fun q hq hl => by have hf := HL12.out.2 q hq; obtain ⟨z11a, z11b, -, z11e, z11y, z11p⟩ := HG11.out; have z11f := z11e.size; have z11g := z11y.size; have z11q := z11p.size; obtain ⟨z13a, z13b, -, z13e, z13y, z13p⟩ := HG13.out; have z13f := z13e.size; have z13g := z13y.size; have z13q := z13p.size; have sy1 := y1.size; have sy11 := y11.size; have sy12 := y12.size; have sy13 := y13.size; subst hl; simp only [World.size_drew] at *; omega)) (by decide) m15 (fun q hq hl => by have hf := HL12.out.2 q hq; obtain ⟨z11a, z11b, -, z11e, z11y, z11p⟩ := HG11.out; have z11f := z11e.size; have z11g := z11y.size; have z11q := z11p.size; obtain ⟨z13a, z13b, -, z13e, z13y, z13p⟩ := HG13.out; have z13f := z13e.size; have z13g := z13y.size; have z13q := z13p.size; have sy1 := y1.size; have sy11 := y11.size; have sy12 := y12.size; have sy13 := y13.size; subst hl; simp only [World.size_drew] at *; omega)), (KE.out _ E15).2.1.ev, (KE.out _ E15).2.1.prow, (KE.out _ E15).2.1.pok⟩, E15⟩
            refine planT_alloc rfl rfl (fun w => Try.zeroValue35 w) rfl (fun g16 w16 y16 hg16 hs16 hb16 => ?_) planT_end
            have E16 : Ext w0 w16 := Mod.trans E11 y16
            have HG16 := Lib.hid (And.intro hg16 (And.intro hs16 (And.intro hb16 (And.intro E16 (And.intro y16 E11)))))
            clear hg16 hs16 hb16
            refine ⟨fun _ => ⟨(KE.out _ E16).2.2.1.cells.1, (KE.out _ E16).2.2.1.cells.2, (KE.out _ E16).2.2.2.cells.1, (KE.out _ E16).2.2.2.cells.2⟩, ?_⟩
            (try simp only [Act.put, List.setIfInBounds_toArray, List.set_cons_zero, List.set_cons_succ])
            refine planT_fork ?_
            refine planT_alt (fun K hK => ?_) planT_end
            go_simp
            go_at_call 20
            refine (rlogf_any _ ue up U Lk (KE.out _ E16).2.1 HSL.out.2).mono ?_
            rintro r w17 ⟨hv17, rfl, lh17, y17, fr17⟩
            have HL17 := Lib.hid (And.intro lh17.row (fun (q : Nat) (hq : fp hv17 q) => (And.intro (fr17 q (fp_ob hq)) (Sl.lt lh17.row (by decide) hq))))
            have on17 := Sl.one lh17.row
            clear lh17 fr17
            have E17 : Ext w0 w17 := Mod.trans E16 y17
            refine hK.out _ _ (⟨(KE.out _ E17).2.2.1.cells.1, (KE.out _ E17).2.2.1.cells.2, (KE.out _ E17).2.2.2.cells.1, (KE.out _ E17).2.2.2.cells.2⟩) ?_
            clear hK K
            (try simp only [Act.put, List.setIfInBounds_toArray, List.set_cons_zero, List.set_cons_succ])
            refine planT_fork ?_
            refine planT_store rfl rfl rfl rfl ((Ext.blk y17 (Ext.blk y16 HG11.out.2.2.1))) (by kernel_rfl) rfl (logArr_all (by assumption) ovp) (fun w18 m18 hs18 hb18 => ?_) planT_end
            have E18 : Ext w0 w18 := Mod.trans' E17 m18 (fun q hq => .inr (by obtain ⟨z11a, z11b, -, z11e, z11y, z11p⟩ := HG11.out; have z11f := z11e.size; have z11g := z11y.size; have z11q := z11p.size; obtain ⟨z16a, z16b, -, z16e, z16y, z16p⟩ := HG16.out; have z16f := z16e.size; have z16g := z16y.size; have z16q := z16p.size; have sy1 := y1.size; have sy11 := y11.size; have sy16 := y16.size; have sy17 := y17.size; subst hq; omega))
            have HG18 := Lib.hid (And.intro hs18 (And.intro hb18 m18))
            clear hs18 hb18
            refine ⟨fun h => (by cases h), ?_⟩
            (try simp only [Act.put])
            refine planT_fork ?_
            refine planT_store rfl rfl rfl rfl ((Mod.blk m18 (Ext.blk y17 HG16.out.2.2.1) (by obtain ⟨z11a, z11b, -, z11e, z11y, z11p⟩ := HG11.out; have z11f := z11e.size; have z11g := z11y.size; have z11q := z11p.size; obtain ⟨z16a, z16b, -, z16e, z16y, z16p⟩ := HG16.out; have z16f := z16e.size; have z16g := z16y.size; have z16q := z16p.size; have sy1 := y1.size; have sy11 := y11.size; have sy16 := y16.size; have sy17 := y17.size; omega))) (by kernel_rfl) rfl (logArr_all (by assumption) oup) (fun w19 m19 hs19 hb19 => ?_) planT_end
            have E19 : Ext w0 w19 := Mod.trans' E18 m19 (fun q hq => .inr (by obtain ⟨z11a, z11b, -, z11e, z11y, z11p⟩ := HG11.out; have z11f := z11e.size; have z11g := z11y.size; have z11q := z11p.size; obtain ⟨z16a, z16b, -, z16e, z16y, z16p⟩ := HG16.out; have z16f := z16e.size; have z16g := z16y.size; have z16q := z16p.size; have sy1 := y1.size; have sy11 := y11.size; have sy16 := y16.size; have sy17 := y17.size; subst hq; omega))
            have HG19 := Lib.hid (And.intro hs19 (And.intro hb19 m19))
            clear hs19 hb19
            refine ⟨fun h => (by cases h), ?_⟩
            (try simp only [Act.put])
            refine planT_nil ?_
            go_wp2_with fail
            go_meet
            exact ⟨g11, g16, hv1, hv17, rfl, rfl, ⟨(Mod.blk m19 HG18.out.2.1 (by obtain ⟨z11a, z11b, -, z11e, z11y, z11p⟩ := HG11.out; have z11f := z11e.size; have z11g := z11y.size; have z11q := z11p.size; obtain ⟨z16a, z16b, -, z16e, z16y, z16p⟩ := HG16.out; have z16f := z16e.size; have z16g := z16y.size; have z16q := z16p.size; have sy1 := y1.size; have sy11 := y11.size; have sy16 := y16.size; have sy17 := y17.size; omega))⟩, ⟨HG19.out.2.1⟩, ⟨(Sl.mod (Sl.mod (Sl.ext (Sl.ext (Sl.ext HL1.out.1 (by decide) y11) (by decide) y16) (by decide) y17) (by decide) m18 (fun q hq hl => by have hf := HL1.out.2 q hq; obtain ⟨z11a, z11b, -, z11e, z11y, z11p⟩ := HG11.out; have z11f := z11e.size; have z11g := z11y.size; have z11q := z11p.size; obtain ⟨z16a, z16b, -, z16e, z16y, z16p⟩ := HG16.out; have z16f := z16e.size; have z16g := z16y.size; have z16q := z16p.size; have sy1 := y1.size; have sy11 := y11.size; have sy16 := y16.size; have sy17 := y17.size; subst hl; simp only [World.size_drew] at *; omega)) (by decide) m19 (fun q hq hl => by have hf := HL1.out.2 q hq; obtain ⟨z11a, z11b, -, z11e, z11y, z11p⟩ := HG11.out; have z11f := z11e.size; have z11g := z11y.size; have z11q := z11p.size; obtain ⟨z16a, z16b, -, z16e, z16y, z16p⟩ := HG16.out; have z16f := z16e.size; have z16g := z16y.size; have z16q := z16p.size; have sy1 := y1.size; have sy11 := y11.size; have sy16 := y16.size; have sy17 := y17.size; subst hl; simp only [World.size_drew] at *; omega)), (KE.out _ E19).1.ev, (KE.out _ E19).1.prow, (KE.out _ E19).1.pok⟩, ⟨(Sl.mod (Sl.mod HL17.out.1 (by decide) m18 (fun q hq hl => by have hf := HL17.out.2 q hq; obtain ⟨z11a, z11b, -, z11e, z11y, z11p⟩ := HG11.out; have z11f := z11e.size; have z11g := z11y.size; have z11q := z11p.size; obtain ⟨z16a, z16b, -, z16e, z16y, z16p⟩ := HG16.out; have z16f := z16e.size; have z16g := z16y.size; have z16q := z16p.size; have sy1 := y1.size; have sy11 := y11.size; have sy16 := y16.size; have sy17 := y17.size; subst hl; simp only [World.size_drew] at *; omega)) (by decide) m19 (fun q hq hl => by have hf := HL17.out.2 q hq; obtain ⟨z11a, z11b, -, z11e, z11y, z11p⟩ := HG11.out; have z11f := z11e.size; have z11g := z11y.size; have z11q := z11p.size; obtain ⟨z16a, z16b, -, z16e, z16y, z16p⟩ := HG16.out; have z16f := z16e.size; have z16g := z16y.size; have z16q := z16p.size; have sy1 := y1.size; have sy11 := y11.size; have sy16 := y16.size; have sy17 := y17.size; subst hl; simp only [World.size_drew] at *; omega)), (KE.out _ E19).2.1.ev, (KE.out _ E19).2.1.prow, (KE.out _ E19).2.1.pok⟩, E19⟩
          refine planT_alloc rfl rfl (fun w => Try.zeroValue35 w) rfl (fun g20 w20 y20 hg20 hs20 hb20 => ?_) planT_end
          have E20 : Ext w0 w20 := Mod.trans E1 y20
          have HG20 := Lib.hid (And.intro hg20 (And.intro hs20 (And.intro hb20 (And.intro E20 (And.intro y20 E1)))))
          clear hg20 hs20 hb20
          refine ⟨fun _ => ⟨(KE.out _ E20).2.2.1.cells.1, (KE.out _ E20).2.2.1.cells.2, (KE.out _ E20).2.2.2.cells.1, (KE.out _ E20).2.2.2.cells.2⟩, ?_⟩
          (try simp only [Act.put, List.setIfInBounds_toArray, List.set_cons_zero, List.set_cons_succ])
          refine planT_fork ?_
          refine planT_alt (fun K hK => ?_) ?_
          · go_simp
            go_at_call 20
            refine (rlogf_any _ ue up U Lk (KE.out _ E20).2.1 HSL.out.2).mono ?_
            rintro r w21 ⟨hv21, rfl, lh21, y21, fr21⟩
            have HL21 := Lib.hid (And.intro lh21.row (fun (q : Nat) (hq : fp hv21 q) => (And.intro (fr21 q (fp_ob hq)) (Sl.lt lh21.row (by decide) hq))))
            have on21 := Sl.one lh21.row
            clear lh21 fr21
            have E21 : Ext w0 w21 := Mod.trans E20 y21
            refine hK.out _ _ (⟨(KE.out _ E21).2.2.1.cells.1, (KE.out _ E21).2.2.1.cells.2, (KE.out _ E21).2.2.2.cells.1, (KE.out _ E21).2.2.2.cells.2⟩) ?_
            clear hK K
            (try simp only [Act.put, List.setIfInBounds_toArray, List.set_cons_zero, List.set_cons_succ])
            refine planT_fork ?_
            refine planT_alloc rfl rfl (fun w => Try.zeroValue35 w) rfl (fun g22 w22 y22 hg22 hs22 hb22 => ?_) planT_end
            have E22 : Ext w0 w22 := Mod.trans E21 y22
            have HG22 := Lib.hid (And.intro hg22 (And.intro hs22 (And.intro hb22 (And.intro E22 (And.intro y22 E21)))))
            clear hg22 hs22 hb22
            refine ⟨fun _ => ⟨(KE.out _ E22).2.2.1.cells.1, (KE.out _ E22).2.2.1.cells.2, (KE.out _ E22).2.2.2.cells.1, (KE.out _ E22).2.2.2.cells.2⟩, ?_⟩
            (try simp only [Act.put, List.setIfInBounds_toArray, List.set_cons_zero, List.set_cons_succ])
            refine planT_fork ?_
            refine planT_store rfl rfl rfl rfl (HG22.out.2.2.1) (by kernel_rfl) rfl (logArr_all (by assumption) ovp) (fun w23 m23 hs23 hb23 => ?_) planT_end
            have E23 : Ext w0 w23 := Mod.trans' E22 m23 (fun q hq => .inr (by obtain ⟨z20a, z20b, -, z20e, z20y, z20p⟩ := HG20.out; have z20f := z20e.size; have z20g := z20y.size; have z20q := z20p.size; obtain ⟨z22a, z22b, -, z22e, z22y, z22p⟩ := HG22.out; have z22f := z22e.size; have z22g := z22y.size; have z22q := z22p.size; have sy1 := y1.size; have sy20 := y20.size; have sy21 := y21.size; have sy22 := y22.size; subst hq; omega))
            have HG23 := Lib.hid (And.intro hs23 (And.intro hb23 m23))
            clear hs23 hb23
            refine ⟨fun h => (by cases h), ?_⟩
            (try simp only [Act.put])
            refine planT_fork ?_
            refine planT_store rfl rfl rfl rfl ((Mod.blk m23 (Ext.blk y22 (Ext.blk y21 HG20.out.2.2.1)) (by obtain ⟨z20a, z20b, -, z20e, z20y, z20p⟩ := HG20.out; have z20f := z20e.size; have z20g := z20y.size; have z20q := z20p.size; obtain ⟨z22a, z22b, -, z22e, z22y, z22p⟩ := HG22.out; have z22f := z22e.size; have z22g := z22y.size; have z22q := z22p.size; have sy1 := y1.size; have sy20 := y20.size; have sy21 := y21.size; have sy22 := y22.size; omega))) (by kernel_rfl) rfl (logArr_all (by assumption) oup) (fun w24 m24 hs24 hb24 => ?_) planT_end
            have E24 : Ext w0 w24 := Mod.trans' E23 m24 (fun q hq => .inr (by obtain ⟨z20a, z20b, -, z20e, z20y, z20p⟩ := HG20.out; have z20f := z20e.size; have z20g := z20y.size; have z20q := z20p.size; obtain ⟨z22a, z22b, -, z22e, z22y, z22p⟩ := HG22.out; have z22f := z22e.size; have z22g := z22y.size; have z22q := z22p.size; have sy1 := y1.size; have sy20 := y20.size; have sy21 := y21.size; have sy22 := y22.size; subst hq; omega))
            have HG24 := Lib.hid (And.intro hs24 (And.intro hb24 m24))
            clear hs24 hb24
            refine ⟨fun h => (by cases h), ?_⟩
            (try simp only [Act.put])
            refine planT_nil ?_
            go_wp2_with fail
            go_meet
            exact ⟨g22, g20, hv1, hv21, rfl, rfl, ⟨(Mod.blk m24 HG23.out.2.1 (by obtain ⟨z20a, z20b, -, z20e, z20y, z20p⟩ := HG20.out; have z20f := z20e.size; have z20g := z20y.size; have z20q := z20p.size; obtain ⟨z22a, z22b, -, z22e, z22y, z22p⟩ := HG22.out; have z22f := z22e.size; have z22g := z22y.size; have z22q := z22p.size; have sy1 := y1.size; have sy20 := y20.size; have sy21 := y21.size; have sy22 := y22.size; omega))⟩, ⟨HG24.out.2.1⟩, ⟨(Sl.mod (Sl.mod (Sl.ext (Sl.ext (Sl.ext HL1.out.1 (by decide) y20) (by decide) y21) (by decide) y22) (by decide) m23 (fun q hq hl => by have hf := HL1.out.2 q hq; obtain ⟨z20a, z20b, -, z20e, z20y, z20p⟩ := HG20.out; have z20f := z20e.size; have z20g := z20y.size; have z20q := z20p.size; obtain ⟨z22a, z22b, -, z22e, z22y, z22p⟩ := HG22.out; have z22f := z22e.size; have z22g := z22y.size; have z22q := z22p.size; have sy1 := y1.size; have sy20 := y20.size; have sy21 := y21.size; have sy22 := y22.size; subst hl; simp only [World.size_drew] at *; omega)) (by decide) m24 (fun q hq hl => by have hf := HL1.out.2 q hq; obtain ⟨z20a, z20b, -, z20e, z20y, z20p⟩ := HG20.out; have z20f := z20e.size; have z20g := z20y.size; have z20q := z20p.size; obtain ⟨z22a, z22b, -, z22e, z22y, z22p⟩ := HG22.out; have z22f := z22e.size; have z22g := z22y.size; have z22q := z22p.size; have sy1 := y1.size; have sy20 := y20.size; have sy21 := y21.size; have sy22 := y22.size; subst hl; simp only [World.size_drew] at *; omega)), (KE.out _ E24).1.ev, (KE.out _ E24).1.prow, (KE.out _ E24).1.pok⟩, ⟨(Sl.mod (Sl.mod (Sl.ext HL21.out.1 (by decide) y22) (by decide) m23 (fun q hq hl => by have hf := HL21.out.2 q hq; obtain ⟨z20a, z20b, -, z20e, z20y, z20p⟩ := HG20.out; have z20f := z20e.size; have z20g := z20y.size; have z20q := z20p.size; obtain ⟨z22a, z22b, -, z22e, z22y, z22p⟩ := HG22.out; have z22f := z22e.size; have z22g := z22y.size; have z22q := z22p.size; have sy1 := y1.size; have sy20 := y20.size; have sy21 := y21.size; have sy22 := y22.size; subst hl; simp only [World.size_drew] at *; omega)) (by decide) m24 (fun q hq hl => by have hf := HL21.out.2 q hq; obtain ⟨z20a, z20b, -, z20e, z20y, z20p⟩ := HG20.out; have z20f := z20e.size; have z20g := z20y.size; have z20q := z20p.size; obtain ⟨z22a, z22b, -, z22e, z22y, z22p⟩ := HG22.out; have z22f := z22e.size; have z22g := z22y.size; have z22q := z22p.size; have sy1 := y1.size; have sy20 := y20.size; have sy21 := y21.size; have sy22 := y22.size; subst hl; simp only [World.size_drew] at *; omega)), (KE.out _ E24).2.1.ev, (KE.out _ E24).2.1.prow, (KE.out _ E24).2.1.pok⟩, E24⟩
          refine planT_alloc rfl rfl (fun w => Try.zeroValue35 w) rfl (fun g25 w25 y25 hg25 hs25 hb25 => ?_) planT_end
          have E25 : Ext w0 w25 := Mod.trans E20 y25
          have HG25 := Lib.hid (And.intro hg25 (And.intro hs25 (And.intro hb25 (And.intro E25 (And.intro y25 E20)))))
          clear hg25 hs25 hb25
          refine ⟨fun _ => ⟨(KE.out _ E25).2.2.1.cells.1, (KE.out _ E25).2.2.1.cells.2, (KE.out _ E25).2.2.2.cells.1, (KE.out _ E25).2.2.2.cells.2⟩, ?_⟩
          (try simp only [Act.put, List.setIfInBounds_toArray, List.set_cons_zero, List.set_cons_succ])
          refine planT_fork ?_
          refine planT_alt (fun K hK => ?_) planT_end
          go_simp
          go_at_call 20
          refine (rlogf_any _ ue up U Lk (KE.out _ E25).2.1 HSL.out.2).mono ?_
          rintro r w26 ⟨hv26, rfl, lh26, y26, fr26⟩
          have HL26 := Lib.hid (And.intro lh26.row (fun (q : Nat) (hq : fp hv26 q) => (And.intro (fr26 q (fp_ob hq)) (Sl.lt lh26.row (by decide) hq))))
          have on26 := Sl.one lh26.row
          clear lh26 fr26
          have E26 : Ext w0 w26 := Mod.trans E25 y26
          refine hK.out _ _ (⟨(KE.out _ E26).2.2.1.cells.1, (KE.out _ E26).2.2.1.cells.2, (KE.out _ E26).2.2.2.cells.1, (KE.out _ E26).2.2.2.cells.2⟩) ?_
          clear hK K
          (try simp only [Act.put, List.setIfInBounds_toArray, List.set_cons_zero, List.set_cons_succ])
          refine planT_fork ?_
          refine planT_store rfl rfl rfl rfl ((Ext.blk y26 HG25.out.2.2.1)) (by kernel_rfl) rfl (logArr_all (by assumption) ovp) (fun w27 m27 hs27 hb27 => ?_) planT_end
          have E27 : Ext w0 w27 := Mod.trans' E26 m27 (fun q hq => .inr (by obtain ⟨z20a, z20b, -, z20e, z20y, z20p⟩ := HG20.out; have z20f := z20e.size; have z20g := z20y.size; have z20q := z20p.size; obtain ⟨z25a, z25b, -, z25e, z25y, z25p⟩ := HG25.out; have z25f := z25e.size; have z25g := z25y.size; have z25q := z25p.size; have sy1 := y1.size; have sy20 := y20.size; have sy25 := y25.size; have sy26 := y26.size; subst hq; omega))
          have HG27 := Lib.hid (And.intro hs27 (And.intro hb27 m27))
          clear hs27 hb27
          refine ⟨fun h => (by cases h), ?_⟩
          (try simp only [Act.put])
          refine planT_fork ?_
          refine planT_store rfl rfl rfl rfl ((Mod.blk m27 (Ext.blk y26 (Ext.blk y25 HG20.out.2.2.1)) (by obtain ⟨z20a, z20b, -, z20e, z20y, z20p⟩ := HG20.out; have z20f := z20e.size; have z20g := z20y.size; have z20q := z20p.size; obtain ⟨z25a, z25b, -, z25e, z25y, z25p⟩ := HG25.out; have z25f := z25e.size; have z25g := z25y.size; have z25q := z25p.size; have sy1 := y1.size; have sy20 := y20.size; have sy25 := y25.size; have sy26 := y26.size; omega))) (by kernel_rfl) rfl (logArr_all (by assumption) oup) (fun w28 m28 hs28 hb28 => ?_) planT_end
          have E28 : Ext w0 w28 := Mod.trans' E27 m28 (fun q hq => .inr (by obtain ⟨z20a, z20b, -, z20e, z20y, z20p⟩ := HG20.out; have z20f := z20e.size; have z20g := z20y.size; have z20q := z20p.size; obtain ⟨z25a, z25b, -, z25e, z25y, z25p⟩ := HG25.out; have z25f := z25e.size; have z25g := z25y.size; have z25q := z25p.size; have sy1 := y1.size; have sy20 := y20.size; have sy25 := y25.size; have sy26 := y26.size; subst hq; omega))
          have HG28 := Lib.hid (And.intro hs28 (And.intro hb28 m28))
          clear hs28 hb28
          refine ⟨fun h => (by cases h), ?_⟩
          (try simp only [Act.put])
          refine planT_nil ?_
          go_wp2_with fail
          go_meet
          exact ⟨g25, g20, hv1, hv26, rfl, rfl, ⟨(Mod.blk m28 HG27.out.2.1 (by obtain ⟨z20a, z20b, -, z20e, z20y, z20p⟩ := HG20.out; have z20f := z20e.size; have z20g := z20y.size; have z20q := z20p.size; obtain ⟨z25a, z25b, -, z25e, z25y, z25p⟩ := HG25.out; have z25f := z25e.size; have z25g := z25y.size; have z25q := z25p.size; have sy1 := y1.size; have sy20 := y20.size; have sy25 := y25.size; have sy26 := y26.size; omega))⟩, ⟨HG28.out.2.1⟩, ⟨(Sl.mod (Sl.mod (Sl.ext (Sl.ext (Sl.ext HL1.out.1 (by decide) y20) (by decide) y25) (by decide) y26) (by decide) m27 (fun q hq hl => by have hf := HL1.out.2 q hq; obtain ⟨z20a, z20b, -, z20e, z20y, z20p⟩ := HG20.out; have z20f := z20e.size; have z20g := z20y.size; have z20q := z20p.size; obtain ⟨z25a, z25b, -, z25e, z25y, z25p⟩ := HG25.out; have z25f := z25e.size; have z25g := z25y.size; have z25q := z25p.size; have sy1 := y1.size; have sy20 := y20.size; have sy25 := y25.size; have sy26 := y26.size; subst hl; simp only [World.size_drew] at *; omega)) (by decide) m28 (fun q hq hl => by have hf := HL1.out.2 q hq; obtain ⟨z20a, z20b, -, z20e, z20y, z20p⟩ := HG20.out; have z20f := z20e.size; have z20g := z20y.size; have z20q := z20p.size; obtain ⟨z25a, z25b, -, z25e, z25y, z25p⟩ := HG25.out; have z25f := z25e.size; have z25g := z25y.size; have z25q := z25p.size; have sy1 := y1.size; have sy20 := y20.size; have sy25 := y25.size; have sy26 := y26.size; subst hl; simp only [World.size_drew] at *; omega)), (KE.out _ E28).1.ev, (KE.out _ E28).1.prow, (KE.out _ E28).1.pok⟩, ⟨(Sl.mod (Sl.mod HL26.out.1 (by decide) m27 (fun q hq hl => by have hf := HL26.out.2 q hq; obtain ⟨z20a, z20b, -, z20e, z20y, z20p⟩ := HG20.out; have z20f := z20e.size; have z20g := z20y.size; have z20q := z20p.size; obtain ⟨z25a, z25b, -, z25e, z25y, z25p⟩ := HG25.out; have z25f := z25e.size; have z25g := z25y.size; have z25q := z25p.size; have sy1 := y1.size; have sy20 := y20.size; have sy25 := y25.size; have sy26 := y26.size; subst hl; simp only [World.size_drew] at *; omega)) (by decide) m28 (fun q hq hl => by have hf := HL26.out.2 q hq; obtain ⟨z20a, z20b, -, z20e, z20y, z20p⟩ := HG20.out; have z20f := z20e.size; have z20g := z20y.size; have z20q := z20p.size; obtain ⟨z25a, z25b, -, z25e, z25y, z25p⟩ := HG25.out; have z25f := z25e.size; have z25g := z25y.size; have z25q := z25p.size; have sy1 := y1.size; have sy20 := y20.size; have sy25 := y25.size; have sy26 := y26.size; subst hl; simp only [World.size_drew] at *; omega)), (KE.out _ E28).2.1.ev, (KE.out _ E28).2.1.prow, (KE.out _ E28).2.1.pok⟩, E28⟩
        refine planT_alloc rfl rfl (fun w => Try.zeroValue35 w) rfl (fun g29 w29 y29 hg29 hs29 hb29 => ?_) ?_
        · have E29 : Ext w0 w29 := Mod.trans (Mod.drew X2) y29
          have HG29 := Lib.hid (And.intro hg29 (And.intro hs29 (And.intro hb29 (And.intro E29 (And.intro y29 (Mod.drew X2))))))
          clear hg29 hs29 hb29
          refine ⟨fun _ => ⟨(KE.out _ E29).2.2.1.cells.1, (KE.out _ E29).2.2.1.cells.2, (KE.out _ E29).2.2.2.cells.1, (KE.out _ E29).2.2.2.cells.2⟩, ?_⟩
          (try simp only [Act.put, List.setIfInBounds_toArray, List.set_cons_zero, List.set_cons_succ])
          refine planT_fork ?_
          refine planT_alt (fun K hK => ?_) ?_
          · go_simp
            go_at_call 20
            refine (rlogf_any _ ve vp V L (KE.out _ E29).1 HSL.out.1).mono ?_
            rintro r w30 ⟨hv30, rfl, lh30, y30, fr30⟩
            have HL30 := Lib.hid (And.intro lh30.row (fun (q : Nat) (hq : fp hv30 q) => (And.intro (fr30 q (fp_ob hq)) (Sl.lt lh30.row (by decide) hq))))
            have on30 := Sl.one lh30.row
            clear lh30 fr30
            have E30 : Ext w0 w30 := Mod.trans E29 y30
            refine hK.out _ _ (⟨(KE.out _ E30).2.2.1.cells.1, (KE.out _ E30).2.2.1.cells.2, (KE.out _ E30).2.2.2.cells.1, (KE.out _ E30).2.2.2.cells.2⟩) ?_
            clear hK K
            (try simp only [Act.put, List.setIfInBounds_toArray, List.set_cons_zero, List.set_cons_succ])
            refine planT_fork ?_
            refine planT_alt (fun K hK => ?_) ?_
            · go_simp
              go_at_call 20
              refine (rlogf_any _ ue up U Lk (KE.out _ E30).2.1 HSL.out.2).mono ?_
              rintro r w31 ⟨hv31, rfl, lh31, y31, fr31⟩
              have HL31 := Lib.hid (And.intro lh31.row (fun (q : Nat) (hq : fp hv31 q) => (And.intro (fr31 q (fp_ob hq)) (Sl.lt lh31.row (by decide) hq))))
              have on31 := Sl.one lh31.row
              clear lh31 fr31
              have E31 : Ext w0 w31 := Mod.trans E30 y31
              refine hK.out _ _ (⟨(KE.out _ E31).2.2.1.cells.1, (KE.out _ E31).2.2.1.cells.2, (KE.out _ E31).2.2.2.cells.1, (KE.out _ E31).2.2.2.cells.2⟩) ?_
              clear hK K
              (try simp only [Act.put, List.setIfInBounds_toArray, List.set_cons_zero, List.set_cons_succ])
              refine planT_fork ?_
              refine planT_alloc rfl rfl (fun w => Try.zeroValue35 w) rfl (fun g32 w32 y32 hg32 hs32 hb32 => ?_) planT_end
              have E32 : Ext w0 w32 := Mod.trans E31 y32
              have HG32 := Lib.hid (And.intro hg32 (And.intro hs32 (And.intro hb32 (And.intro E32 (And.intro y32 E31)))))
              clear hg32 hs32 hb32
              refine ⟨fun _ => ⟨(KE.out _ E32).2.2.1.cells.1, (KE.out _ E32).2.2.1.cells.2, (KE.out _ E32).2.2.2.cells.1, (KE.out _ E32).2.2.2.cells.2⟩, ?_⟩
              (try simp only [Act.put, List.setIfInBounds_toArray, List.set_cons_zero, List.set_cons_succ])
              refine planT_fork ?_
              refine planT_store rfl rfl rfl rfl ((Ext.blk y32 (Ext.blk y31 (Ext.blk y30 HG29.out.2.2.1)))) (by kernel_rfl) rfl (logArr_all (by assumption) ovp) (fun w33 m33 hs33 hb33 => ?_) planT_end
              have E33 : Ext w0 w33 := Mod.trans' E32 m33 (fun q hq => .inr (by obtain ⟨z29a, z29b, -, z29e, z29y, z29p⟩ := HG29.out; have z29f := z29e.size; have z29g := z29y.size; have z29q := z29p.size; obtain ⟨z32a, z32b, -, z32e, z32y, z32p⟩ := HG32.out; have z32f := z32e.size; have z32g := z32y.size; have z32q := z32p.size; have sy29 := y29.size; have sy30 := y30.size; have sy31 := y31.size; have sy32 := y32.size; subst hq; omega))
              have HG33 := Lib.hid (And.intro hs33 (And.intro hb33 m33))
              clear hs33 hb33
              refine ⟨fun h => (by cases h), ?_⟩
              (try simp only [Act.put])
              refine planT_fork ?_
              refine planT_store rfl rfl rfl rfl ((Mod.blk m33 HG32.out.2.2.1 (by obtain ⟨z29a, z29b, -, z29e, z29y, z29p⟩ := HG29.out; have z29f := z29e.size; have z29g := z29y.size; have z29q := z29p.size; obtain ⟨z32a, z32b, -, z32e, z32y, z32p⟩ := HG32.out; have z32f := z32e.size; have z32g := z32y.size; have z32q := z32p.size; have sy29 := y29.size; have sy30 := y30.size; have sy31 := y31.size; have sy32 := y32.size; omega))) (by kernel_rfl) rfl (logArr_all (by assumption) oup) (fun w34 m34 hs34 hb34 => ?_) planT_end
              have E34 : Ext w0 w34 := Mod.trans' E33 m34 (fun q hq => .inr (by obtain ⟨z29a, z29b, -, z29e, z29y, z29p⟩ := HG29.out; have z29f := z29e.size; have z29g := z29y.size; have z29q := z29p.size; obtain ⟨z32a, z32b, -, z32e, z32y, z32p⟩ := HG32.out; have z32f := z32e.size; have z32g := z32y.size; have z32q := z32p.size; have sy29 := y29.size; have sy30 := y30.size; have sy31 := y31.size; have sy32 := y32.size; subst hq; omega))
              have HG34 := Lib.hid (And.intro hs34 (And.intro hb34 m34))
              clear hs34 hb34
              refine ⟨fun h => (by cases h), ?_⟩
              (try simp only [Act.put])
              refine planT_nil ?_
              go_wp2_with fail
              go_meet
              exact ⟨g29, g32, hv30, hv31, rfl, rfl, ⟨(Mod.blk m34 HG33.out.2.1 (by obtain ⟨z29a, z29b, -, z29e, z29y, z29p⟩ := HG29.out; have z29f := z29e.size; have z29g := z29y.size; have z29q := z29p.size; obtain ⟨z32a, z32b, -, z32e, z32y, z32p⟩ := HG32.out; have z32f := z32e.size; have z32g := z32y.size; have z32q := z32p.size; have sy29 := y29.size; have sy30 := y30.size; have sy31 := y31.size; have sy32 := y32.size; omega))⟩, ⟨HG34.out.2.1⟩, ⟨(Sl.mod (Sl.mod (Sl.ext (Sl.ext HL30.out.1 (by decide) y31) (by decide) y32) (by decide) m33 (fun q hq hl => by have hf := HL30.out.2 q hq; obtain ⟨z29a, z29b, -, z29e, z29y, z29p⟩ := HG29.out; have z29f := z29e.size; have z29g := z29y.size; have z29q := z29p.size; obtain ⟨z32a, z32b, -, z32e, z32y, z32p⟩ := HG32.out; have z32f := z32e.size; have z32g := z32y.size; have z32q := z32p.size; have sy29 := y29.size; have sy30 := y30.size; have sy31 := y31.size; have sy32 := y32.size; subst hl; simp only [World.size_drew] at *; omega)) (by decide) m34 (fun q hq hl => by have hf := HL30.out.2 q hq; obtain ⟨z29a, z29b, -, z29e, z29y, z29p⟩ := HG29.out; have z29f := z29e.size; have z29g := z29y.size; have z29q := z29p.size; obtain ⟨z32a, z32b, -, z32e, z32y, z32p⟩ := HG32.out; have z32f := z32e.size; have z32g := z32y.size; have z32q := z32p.size; have sy29 := y29.size; have sy30 := y30.size; have sy31 := y31.size; have sy32 := y32.size; subst hl; simp only [World.size_drew] at *; omega)), (KE.out _ E34).1.ev, (KE.out _ E34).1.prow, (KE.out _ E34).1.pok⟩, ⟨(Sl.mod (Sl.mod (Sl.ext HL31.out.1 (by decide) y32) (by decide) m33 (fun q hq hl => by have hf := HL31.out.2 q hq; obtain ⟨z29a, z29b, -, z29e, z29y, z29p⟩ := HG29.out; have z29f := z29e.size; have z29g := z29y.size; have z29q := z29p.size; obtain ⟨z32a, z32b, -, z32e, z32y, z32p⟩ := HG32.out; have z32f := z32e.size; have z32g := z32y.size; have z32q := z32p.size; have sy29 := y29.size; have sy30 := y30.size; have sy31 := y31.size; have sy32 := y32.size; subst hl; simp only [World.size_drew] at *; omega)) (by decide) m34 (fun q hq hl => by have hf := HL31.out.2 q hq; obtain ⟨z29a, z29b, -, z29e, z29y, z29p⟩ := HG29.out; have z29f := z29e.size; have z29g := z29y.size; have z29q := z29p.size; obtain ⟨z32a, z32b, -, z32e, z32y, z32p⟩ := HG32.out; have z32f := z32e.size; have z32g := z32y.size; have z32q := z32p.size; have sy29 := y29.size; have sy30 := y30.size; have sy31 := y31.size; have sy32 := y32.size; subst hl; simp only [World.size_drew] at *; omega)), (KE.out _ E34).2.1.ev, (KE.out _ E34).2.1.prow, (KE.out _ E34).2.1.pok⟩, E34⟩
            refine planT_alloc rfl rfl (fun w => Try.zeroValue35 w) rfl (fun g35 w35 y35 hg35 hs35 hb35 => ?_) planT_end
            have E35 : Ext w0 w35 := Mod.trans E30 y35
            have HG35 := Lib.hid (And.intro hg35 (And.intro hs35 (And.intro hb35 (And.intro E35 (And.intro y35 E30)))))
            clear hg35 hs35 hb35
            refine ⟨fun _ => ⟨(KE.out _ E35).2.2.1.cells.1, (KE.out _ E35).2.2.1.cells.2, (KE.out _ E35).2.2.2.cells.1, (KE.out _ E35).2.2.2.cells.2⟩, ?_⟩
            (try simp only [Act.put, List.setIfInBounds_toArray, List.set_cons_zero, List.set_cons_succ])
            refine planT_fork ?_
            refine planT_alt (fun K hK => ?_) planT_end
            go_simp
            go_at_call 20
            refine (rlogf_any _ ue up U Lk (KE.out _ E35).2.1 HSL.out.2).mono ?_
            rintro r w36 ⟨hv36, rfl, lh36, y36, fr36⟩
            have HL36 := Lib.hid (And.intro lh36.row (fun (q : Nat) (hq : fp hv36 q) => (And.intro (fr36 q (fp_ob hq)) (Sl.lt lh36.row (by decide) hq))))
            have on36 := Sl.one lh36.row
            clear lh36 fr36
            have E36 : Ext w0 w36 := Mod.trans E35 y36
            refine hK.out _ _ (⟨(KE.out _ E36).2.2.1.cells.1, (KE.out _ E36).2.2.1.cells.2, (KE.out _ E36).2.2.2.cells.1, (KE.out _ E36).2.2.2.cells.2⟩) ?_
            clear hK K
            (try simp only [Act.put, List.setIfInBounds_toArray, List.set_cons_zero, List.set_cons_succ])
            refine planT_fork ?_
            refine planT_store rfl rfl rfl rfl ((Ext.blk y36 (Ext.blk y35 (Ext.blk y30 HG29.out.2.2.1)))) (by kernel_rfl) rfl (logArr_all (by assumption) ovp) (fun w37 m37 hs37 hb37 => ?_) planT_end
            have E37 : Ext w0 w37 := Mod.trans' E36 m37 (fun q hq => .inr (by obtain ⟨z29a, z29b, -, z29e, z29y, z29p⟩ := HG29.out; have z29f := z29e.size; have z29g := z29y.size; have z29q := z29p.size; obtain ⟨z35a, z35b, -, z35e, z35y, z35p⟩ := HG35.out; have z35f := z35e.size; have z35g := z35y.size; have z35q := z35p.size; have sy29 := y29.size; have sy30 := y30.size; have sy35 := y35.size; have sy36 := y36.size; subst hq; omega))
            have HG37 := Lib.hid (And.intro hs37 (And.intro hb37 m37))
            clear hs37 hb37
            refine ⟨fun h => (by cases h), ?_⟩
            (try simp only [Act.put])
            refine planT_fork ?_
            refine planT_store rfl rfl rfl rfl ((Mod.blk m37 (Ext.blk y36 HG35.out.2.2.1) (by obtain ⟨z29a, z29b, -, z29e, z29y, z29p⟩ := HG29.out; have z29f := z29e.size; have z29g := z29y.size; have z29q := z29p.size; obtain ⟨z35a, z35b, -, z35e, z35y, z35p⟩ := HG35.out; have z35f := z35e.size; have z35g := z35y.size; have z35q := z35p.size; have sy29 := y29.size; have sy30 := y30.size; have sy35 := y35.size; have sy36 := y36.size; omega))) (by kernel_rfl) rfl (logArr_all (by assumption) oup) (fun w38 m38 hs38 hb38 => ?_) planT_end
            have E38 : Ext w0 w38 := Mod.trans' E37 m38 (fun q hq => .inr (by obtain ⟨z29a, z29b, -, z29e, z29y, z29p⟩ := HG29.out; have z29f := z29e.size; have z29g := z29y.size; have z29q := z29p.size; obtain ⟨z35a, z35b, -, z35e, z35y, z35p⟩ := HG35.out; have z35f := z35e.size; have z35g := z35y.size; have z35q := z35p.size; have sy29 := y29.size; have sy30 := y30.size; have sy35 := y35.size; have sy36 := y36.size; subst hq; omega))
            have HG38 := Lib.hid (And.intro hs38 (And.intro hb38 m38))
            clear hs38 hb38
            refine ⟨fun h => (by cases h), ?_⟩
            (try simp only [Act.put])
            refine planT_nil ?_
            go_wp2_with fail
            go_meet
            exact ⟨g29, g35, hv30, hv36, rfl, rfl, ⟨(Mod.blk m38 HG37.out.2.1 (by obtain ⟨z29a, z29b, -, z29e, z29y, z29p⟩ := HG29.out; have z29f := z29e.size; have z29g := z29y.size; have z29q := z29p.size; obtain ⟨z35a, z35b, -, z35e, z35y, z35p⟩ := HG35.out; have z35f := z35e.size; have z35g := z35y.size; have z35q := z35p.size; have sy29 := y29.size; have sy30 := y30.size; have sy35 := y35.size; have sy36 := y36.size; omega))⟩, ⟨HG38.out.2.1⟩, ⟨(Sl.mod (Sl.mod (Sl.ext (Sl.ext HL30.out.1 (by decide) y35) (by decide) y36) (by decide) m37 (fun q hq hl => by have hf := HL30.out.2 q hq; obtain ⟨z29a, z29b, -, z29e, z29y, z29p⟩ := HG29.out; have z29f := z29e.size; have z29g := z29y.size; have z29q := z29p.size; obtain ⟨z35a, z35b, -, z35e, z35y, z35p⟩ := HG35.out; have z35f := z35e.size; have z35g := z35y.size; have z35q := z35p.size; have sy29 := y29.size; have sy30 := y30.size; have sy35 := y35.size; have sy36 := y36.size; subst hl; simp only [World.size_drew] at *; omega)) (by decide) m38 (fun q hq hl => by have hf := HL30.out.2 q hq; obtain ⟨z29a, z29b, -, z29e, z29y, z29p⟩ := HG29.out; have z29f := z29e.size; have z29g := z29y.size; have z29q := z29p.size; obtain ⟨z35a, z35b, -, z35e, z35y, z35p⟩ := HG35.out; have z35f := z35e.size; have z35g := z35y.size; have z35q := z35p.size; have sy29 := y29.size; have sy30 := y30.size; have sy35 := y35.size; have sy36 := y36.size; subst hl; simp only [World.size_drew] at *; omega)), (KE.out _ E38).1.ev, (KE.out _ E38).1.prow, (KE.out _ E38).1.pok⟩, ⟨(Sl.mod (Sl.mod HL36.out.1 (by decide) m37 (fun q hq hl => by have hf := HL36.out.2 q hq; obtain ⟨z29a, z29b, -, z29e, z29y, z29p⟩ := HG29.out; have z29f := z29e.size; have z29g := z29y.size; have z29q := z29p.size; obtain ⟨z35a, z35b, -, z35e, z35y, z35p⟩ := HG35.out; have z35f := z35e.size; have z35g := z35y.size; have z35q := z35p.size; have sy29 := y29.size; have sy30 := y30.size; have sy35 := y35.size; have sy36 := y36.size; subst hl; simp only [World.size_drew] at *; omega)) (by decide) m38 (fun q hq hl => by have hf := HL36.out.2 q hq; obtain ⟨z29a, z29b, -, z29e, z29y, z29p⟩ := HG29.out; have z29f := z29e.size; have z29g := z29y.size; have z29q := z29p.size; obtain ⟨z35a, z35b, -, z35e, z35y, z35p⟩ := HG35.out; have z35f := z35e.size; have z35g := z35y.size; have z35q := z35p.size; have sy29 := y29.size; have sy30 := y30.size; have sy35 := y35.size; have sy36 := y36.size; subst hl; simp only [World.size_drew] at *; omega)), (KE.out _ E38).2.1.ev, (KE.out _ E38).2.1.prow, (KE.out _ E38).2.1.pok⟩, E38⟩
          refine planT_alloc rfl rfl (fun w => Try.zeroValue35 w) rfl (fun g39 w39 y39 hg39 hs39 hb39 => ?_) planT_end
          have E39 : Ext w0 w39 := Mod.trans E29 y39
          have HG39 := Lib.hid (And.intro hg39 (And.intro hs39 (And.intro hb39 (And.intro E39 (And.intro y39 E29)))))
          clear hg39 hs39 hb39
          refine ⟨fun _ => ⟨(KE.out _ E39).2.2.1.cells.1, (KE.out _ E39).2.2.1.cells.2, (KE.out _ E39).2.2.2.cells.1, (KE.out _ E39).2.2.2.cells.2⟩, ?_⟩
          (try simp only [Act.put, List.setIfInBounds_toArray, List.set_cons_zero, List.set_cons_succ])
          refine planT_fork ?_
          refine planT_alt (fun K hK => ?_) planT_end
          go_simp
          go_at_call 20
          refine (rlogf_any _ ve vp V L (KE.out _ E39).1 HSL.out.1).mono ?_
          rintro r w40 ⟨hv40, rfl, lh40, y40, fr40⟩
          have HL40 := Lib.hid (And.intro lh40.row (fun (q : Nat) (hq : fp hv40 q) => (And.intro (fr40 q (fp_ob hq)) (Sl.lt lh40.row (by decide) hq))))
          have on40 := Sl.one lh40.row
          clear lh40 fr40
          have E40 : Ext w0 w40 := Mod.trans E39 y40
          refine hK.out _ _ (⟨(KE.out _ E40).2.2.1.cells.1, (KE.out _ E40).2.2.1.cells.2, (KE.out _ E40).2.2.2.cells.1, (KE.out _ E40).2.2.2.cells.2⟩) ?_
          clear hK K
          (try simp only [Act.put, List.setIfInBounds_toArray, List.set_cons_zero, List.set_cons_succ])
          refine planT_fork ?_
          refine planT_alt (fun K hK => ?_) planT_end
          go_simp
          go_at_call 20
          refine (rlogf_any _ ue up U Lk (KE.out _ E40).2.1 HSL.out.2).mono ?_
          rintro r w41 ⟨hv41, rfl, lh41, y41, fr41⟩
          have HL41 := Lib.hid (And.intro lh41.row (fun (q : Nat) (hq : fp hv41 q) => (And.intro (fr41 q (fp_ob hq)) (Sl.lt lh41.row (by decide) hq))))
          have on41 := Sl.one lh41.row
          clear lh41 fr41
          have E41 : Ext w0 w41 := Mod.trans E40 y41
          refine hK.out _ _ (⟨(KE.out _ E41).2.2.1.cells.1, (KE.out _ E41).2.2.1.cells.2, (KE.out _ E41).2.2.2.cells.1, (KE.out _ E41).2.2.2.cells.2⟩) ?_
          clear hK K
          (try simp only [Act.put, List.setIfInBounds_toArray, List.set_cons_zero, List.set_cons_succ])
          refine planT_fork ?_
          refine planT_store rfl rfl rfl rfl ((Ext.blk y41 (Ext.blk y40 (Ext.blk y39 HG29.out.2.2.1)))) (by kernel_rfl) rfl (logArr_all (by assumption) ovp) (fun w42 m42 hs42 hb42 => ?_) planT_end
          have E42 : Ext w0 w42 := Mod.trans' E41 m42 (fun q hq => .inr (by obtain ⟨z29a, z29b, -, z29e, z29y, z29p⟩ := HG29.out; have z29f := z29e.size; have z29g := z29y.size; have z29q := z29p.size; obtain ⟨z39a, z39b, -, z39e, z39y, z39p⟩ := HG39.out; have z39f := z39e.size; have z39g := z39y.size; have z39q := z39p.size; have sy29 := y29.size; have sy39 := y39.size; have sy40 := y40.size; have sy41 := y41.size; subst hq; omega))
          have HG42 := Lib.hid (And.intro hs42 (And.intro hb42 m42))
          clear hs42 hb42
          refine ⟨fun h => (by cases h), ?_⟩
          (try simp only [Act.put])
          refine planT_fork ?_
          refine planT_store rfl rfl rfl rfl ((Mod.blk m42 (Ext.blk y41 (Ext.blk y40 HG39.out.2.2.1)) (by obtain ⟨z29a, z29b, -, z29e, z29y, z29p⟩ := HG29.out; have z29f := z29e.size; have z29g := z29y.size; have z29q := z29p.size; obtain ⟨z39a, z39b, -, z39e, z39y, z39p⟩ := HG39.out; have z39f := z39e.size; have z39g := z39y.size; have z39q := z39p.size; have sy29 := y29.size; have sy39 := y39.size; have sy40 := y40.size; have sy41 := y41.size; omega))) (by kernel_rfl) rfl (logArr_all (by assumption) oup) (fun w43 m43 hs43 hb43 => ?_) planT_end
          have E43 : Ext w0 w43 := Mod.trans' E42 m43 (fun q hq => .inr (by obtain ⟨z29a, z29b, -, z29e, z29y, z29p⟩ := HG29.out; have z29f := z29e.size; have z29g := z29y.size; have z29q := z29p.size; obtain ⟨z39a, z39b, -, z39e, z39y, z39p⟩ := HG39.out; have z39f := z39e.size; have z39g := z39y.size; have z39q := z39p.size; have sy29 := y29.size; have sy39 := y39.size; have sy40 := y40.size; have sy41 := y41.size; subst hq; omega))
          have HG43 := Lib.hid (And.intro hs43 (And.intro hb43 m43))
          clear hs43 hb43
          refine ⟨fun h => (by cases h), ?_⟩
          (try simp only [Act.put])
          refine planT_nil ?_
          go_wp2_with fail
          go_meet
          exact ⟨g29, g39, hv40, hv41, rfl, rfl, ⟨(Mod.blk m43 HG42.out.2.1 (by obtain ⟨z29a, z29b, -, z29e, z29y, z29p⟩ := HG29.out; have z29f := z29e.size; have z29g := z29y.size; have z29q := z29p.size; obtain ⟨z39a, z39b, -, z39e, z39y, z39p⟩ := HG39.out; have z39f := z39e.size; have z39g := z39y.size; have z39q := z39p.size; have sy29 := y29.size; have sy39 := y39.size; have sy40 := y40.size; have sy41 := y41.size; omega))⟩, ⟨HG43.out.2.1⟩, ⟨(Sl.mod (Sl.mod (Sl.ext HL40.out.1 (by decide) y41) (by decide) m42 (fun q hq hl => by have hf := HL40.out.2 q hq; obtain ⟨z29a, z29b, -, z29e, z29y, z29p⟩ := HG29.out; have z29f := z29e.size; have z29g := z29y.size; have z29q := z29p.size; obtain ⟨z39a, z39b, -, z39e, z39y, z39p⟩ := HG39.out; have z39f := z39e.size; have z39g := z39y.size; have z39q := z39p.size; have sy29 := y29.size; have sy39 := y39.size; have sy40 := y40.size; have sy41 := y41.size; subst hl; simp only [World.size_drew] at *; omega)) (by decide) m43 (fun q hq hl => by have hf := HL40.out.2 q hq; obtain ⟨z29a, z29b, -, z29e, z29y, z29p⟩ := HG29.out; have z29f := z29e.size; have z29g := z29y.size; have z29q := z29p.size; obtain ⟨z39a, z39b, -, z39e, z39y, z39p⟩ := HG39.out; have z39f := z39e.size; have z39g := z39y.size; have z39q := z39p.size; have sy29 := y29.size; have sy39 := y39.size; have sy40 := y40.size; have sy41 := y41.size; subst hl; simp only [World.size_drew] at *; omega)), (KE.out _ E43).1.ev, (KE.out _ E43).1.prow, (KE.out _ E43).1.pok⟩, ⟨(Sl.mod (Sl.mod HL41.out.1 (by decide) m42 (fun q hq hl => by have hf := HL41.out.2 q hq; obtain ⟨z29a, z29b, -, z29e, z29y, z29p⟩ := HG29.out; have z29f := z29e.size; have z29g := z29y.size; have z29q := z29p.size; obtain ⟨z39a, z39b, -, z39e, z39y, z39p⟩ := HG39.out; have z39f := z39e.size; have z39g := z39y.size; have z39q := z39p.size; have sy29 := y29.size; have sy39 := y39.size; have sy40 := y40.size; have sy41 := y41.size; subst hl; simp only [World.size_drew] at *; omega)) (by decide) m43 (fun q hq hl => by have hf := HL41.out.2 q hq; obtain ⟨z29a, z29b, -, z29e, z29y, z29p⟩ := HG29.out; have z29f := z29e.size; have z29g := z29y.size; have z29q := z29p.size; obtain ⟨z39a, z39b, -, z39e, z39y, z39p⟩ := HG39.out; have z39f := z39e.size; have z39g := z39y.size; have z39q := z39p.size; have sy29 := y29.size; have sy39 := y39.size; have sy40 := y40.size; have sy41 := y41.size; subst hl; simp only [World.size_drew] at *; omega)), (KE.out _ E43).2.1.ev, (KE.out _ E43).2.1.prow, (KE.out _ E43).2.1.pok⟩, E43⟩
        refine planT_alloc rfl rfl (fun w => Try.zeroValue35 w) rfl (fun g44 w44 y44 hg44 hs44 hb44 => ?_) planT_end
        have E44 : Ext w0 w44 := Mod.trans (Mod.drew X2) y44
        have HG44 := Lib.hid (And.intro hg44 (And.intro hs44 (And.intro hb44 (And.intro E44 (And.intro y44 (Mod.drew X2))))))
        clear hg44 hs44 hb44
        refine ⟨fun _ => ⟨(KE.out _ E44).2.2.1.cells.1, (KE.out _ E44).2.2.1.cells.2, (KE.out _ E44).2.2.2.cells.1, (KE.out _ E44).2.2.2.cells.2⟩, ?_⟩
        (try simp only [Act.put, List.setIfInBounds_toArray, List.set_cons_zero, List.set_cons_succ])
        refine planT_fork ?_
        refine planT_alt (fun K hK => ?_) ?_
        · go_simp
          go_at_call 20
          refine (rlogf_any _ ve vp V L (KE.out _ E44).1 HSL.out.1).mono ?_
          rintro r w45 ⟨hv45, rfl, lh45, y45, fr45⟩
          have HL45 := Lib.hid (And.intro lh45.row (fun (q : Nat) (hq : fp hv45 q) => (And.intro (fr45 q (fp_ob hq)) (Sl.lt lh45.row (by decide) hq))))
          have on45 := Sl.one lh45.row
          clear lh45 fr45
          have E45 : Ext w0 w45 := Mod.trans E44 y45
          refine hK.out _ _ (⟨(KE.out _ E45).2.2.1.cells.1, (KE.out _ E45).2.2.1.cells.2, (KE.out _ E45).2.2.2.cells.1, (KE.out _ E45).2.2.2.cells.2⟩) ?_
          clear hK K
          (try simp only [Act.put, List.setIfInBounds_toArray, List.set_cons_zero, List.set_cons_succ])
          refine planT_fork ?_
          refine planT_alt (fun K hK => ?_) ?_
          · go_simp
            go_at_call 20
            refine (rlogf_any _ ue up U Lk (KE.out _ E45).2.1 HSL.out.2).mono ?_
            rintro r w46 ⟨hv46, rfl, lh46, y46, fr46⟩
            have HL46 := Lib.hid (And.intro lh46.row (fun (q : Nat) (hq : fp hv46 q) => (And.intro (fr46 q (fp_ob hq)) (Sl.lt lh46.row (by decide) hq))))
            have on46 := Sl.one lh46.row
            clear lh46 fr46
            have E46 : Ext w0 w46 := Mod.trans E45 y46
            refine hK.out _ _ (⟨(KE.out _ E46).2.2.1.cells.1, (KE.out _ E46).2.2.1.cells.2, (KE.out _ E46).2.2.2.cells.1, (KE.out _ E46).2.2.2.cells.2⟩) ?_
            clear hK K
            (try simp only [Act.put, List.setIfInBounds_toArray, List.set_cons_zero, List.set_cons_succ])
            refine planT_fork ?_
            refine planT_alloc rfl rfl (fun w => Try.zeroValue35 w) rfl (fun g47 w47 y47 hg47 hs47 hb47 => ?_) planT_end
            have E47 : Ext w0 w47 := Mod.trans E46 y47
            have HG47 := Lib.hid (And.intro hg47 (And.intro hs47 (And.intro hb47 (And.intro E47 (And.intro y47 E46)))))
            clear hg47 hs47 hb47
            refine ⟨fun _ => ⟨(KE.out _ E47).2.2.1.cells.1, (KE.out _ E47).2.2.1.cells.2, (KE.out _ E47).2.2.2.cells.1, (KE.out _ E47).2.2.2.cells.2⟩, ?_⟩
            (try simp only [Act.put, List.setIfInBounds_toArray, List.set_cons_zero, List.set_cons_succ])
            refine planT_fork ?_
            refine planT_store rfl rfl rfl rfl (HG47.out.2.2.1) (by kernel_rfl) rfl (logArr_all (by assumption) ovp) (fun w48 m48 hs48 hb48 => ?_) planT_end
            have E48 : Ext w0 w48 := Mod.trans' E47 m48 (fun q hq => .inr (by obtain ⟨z44a, z44b, -, z44e, z44y, z44p⟩ := HG44.out; have z44f := z44e.size; have z44g := z44y.size; have z44q := z44p.size; obtain ⟨z47a, z47b, -, z47e, z47y, z47p⟩ := HG47.out; have z47f := z47e.size; have z47g := z47y.size; have z47q := z47p.size; have sy44 := y44.size; have sy45 := y45.size; have sy46 := y46.size; have sy47 := y47.size; subst hq; omega))
            have HG48 := Lib.hid (And.intro hs48 (And.intro hb48 m48))
            clear hs48 hb48
            refine ⟨fun h => (by cases h), ?_⟩
            (try simp only [Act.put])
            refine planT_fork ?_
            refine planT_store rfl rfl rfl rfl ((Mod.blk m48 (Ext.blk y47 (Ext.blk y46 (Ext.blk y45 HG44.out.2.2.1))) (by obtain ⟨z44a, z44b, -, z44e, z44y, z44p⟩ := HG44.out; have z44f := z44e.size; have z44g := z44y.size; have z44q := z44p.size; obtain ⟨z47a, z47b, -, z47e, z47y, z47p⟩ := HG47.out; have z47f := z47e.size; have z47g := z47y.size; have z47q := z47p.size; have sy44 := y44.size; have sy45 := y45.size; have sy46 := y46.size; have sy47 := y47.size; omega))) (by kernel_rfl) rfl (logArr_all (by assumption) oup) (fun w49 m49 hs49 hb49 => ?_) planT_end
            have E49 : Ext w0 w49 := Mod.trans' E48 m49 (fun q hq => .inr (by obtain ⟨z44a, z44b, -, z44e, z44y, z44p⟩ := HG44.out; have z44f := z44e.size; have z44g := z44y.size; have z44q := z44p.size; obtain ⟨z47a, z47b, -, z47e, z47y, z47p⟩ := HG47.out; have z47f := z47e.size; have z47g := z47y.size; have z47q := z47p.size; have sy44 := y44.size; have sy45 := y45.size; have sy46 := y46.size; have sy47 := y47.size; subst hq; omega))
            have HG49 := Lib.hid (And.intro hs49 (And.intro hb49 m49))
            clear hs49 hb49
            refine ⟨fun h => (by cases h), ?_⟩
            (try simp only [Act.put])
            refine planT_nil ?_
            go_wp2_with fail
            go_meet
            exact ⟨g47, g44, hv45, hv46, rfl, rfl, ⟨(Mod.blk m49 HG48.out.2.1 (by obtain ⟨z44a, z44b, -, z44e, z44y, z44p⟩ := HG44.out; have z44f := z44e.size; have z44g := z44y.size; have z44q := z44p.size; obtain ⟨z47a, z47b, -, z47e, z47y, z47p⟩ := HG47.out; have z47f := z47e.size; have z47g := z47y.size; have z47q := z47p.size; have sy44 := y44.size; have sy45 := y45.size; have sy46 := y46.size; have sy47 := y47.size; omega))⟩, ⟨HG49.out.2.1⟩, ⟨(Sl.mod (Sl.mod (Sl.ext (Sl.ext HL45.out.1 (by decide) y46) (by decide) y47) (by decide) m48 (fun q hq hl => by have hf := HL45.out.2 q hq; obtain ⟨z44a, z44b, -, z44e, z44y, z44p⟩ := HG44.out; have z44f := z44e.size; have z44g := z44y.size; have z44q := z44p.size; obtain ⟨z47a, z47b, -, z47e, z47y, z47p⟩ := HG47.out; have z47f := z47e.size; have z47g := z47y.size; have z47q := z47p.size; have sy44 := y44.size; have sy45 := y45.size; have sy46 := y46.size; have sy47 := y47.size; subst hl; simp only [World.size_drew] at *; omega)) (by decide) m49 (fun q hq hl => by have hf := HL45.out.2 q hq; obtain ⟨z44a, z44b, -, z44e, z44y, z44p⟩ := HG44.out; have z44f := z44e.size; have z44g := z44y.size; have z44q := z44p.size; obtain ⟨z47a, z47b, -, z47e, z47y, z47p⟩ := HG47.out; have z47f := z47e.size; have z47g := z47y.size; have z47q := z47p.size; have sy44 := y44.size; have sy45 := y45.size; have sy46 := y46.size; have sy47 := y47.size; subst hl; simp only [World.size_drew] at *; omega)), (KE.out _ E49).1.ev, (KE.out _ E49).1.prow, (KE.out _ E49).1.pok⟩, ⟨(Sl.mod (Sl.mod (Sl.ext HL46.out.1 (by decide) y47) (by decide) m48 (fun q hq hl => by have hf := HL46.out.2 q hq; obtain ⟨z44a, z44b, -, z44e, z44y, z44p⟩ := HG44.out; have z44f := z44e.size; have z44g := z44y.size; have z44q := z44p.size; obtain ⟨z47a, z47b, -, z47e, z47y, z47p⟩ := HG47.out; have z47f := z47e.size; have z47g := z47y.size; have z47q := z47p.size; have sy44 := y44.size; have sy45 := y45.size; have sy46 := y46.size; have sy47 := y47.size; subst hl; simp only [World.size_drew] at *; omega)) (by decide) m49 (fun q hq hl => by have hf := HL46.out.2 q hq; obtain ⟨z44a, z44b, -, z44e, z44y, z44p⟩ := HG44.out; have z44f := z44e.size; have z44g := z44y.size; have z44q := z44p.size; obtain ⟨z47a, z47b, -, z47e, z47y, z47p⟩ := HG47.out; have z47f := z47e.size; have z47g := z47y.size; have z47q := z47p.size; have sy44 := y44.size; have sy45 := y45.size; have sy46 := y46.size; have sy47 := y47.size; subst hl; simp only [World.size_drew] at *; omega)), (KE.out _ E49).2.1.ev, (KE.out _ E49).2.1.prow, (KE.out _ E49).2.1.pok⟩, E49⟩
          refine planT_alloc rfl rfl (fun w => Try.zeroValue35 w) rfl (fun g50 w50 y50 hg50 hs50 hb50 => ?_) planT_end
          have E50 : Ext w0 w50 := Mod.trans E45 y50
          have HG50 := Lib.hid (And.intro hg50 (And.intro hs50 (And.intro hb50 (And.intro E50 (And.intro y50 E45)))))
          clear hg50 hs50 hb50
          refine ⟨fun _ => ⟨(KE.out _ E50).2.2.1.cells.1, (KE.out _ E50).2.2.1.cells.2, (KE.out _ E50).2.2.2.cells.1, (KE.out _ E50).2.2.2.cells.2⟩, ?_⟩
          (try simp only [Act.put, List.setIfInBounds_toArray, List.set_cons_zero, List.set_cons_succ])
          refine planT_fork ?_
          refine planT_alt (fun K hK => ?_) planT_end
          go_simp
          go_at_call 20
          refine (rlogf_any _ ue up U Lk (KE.out _ E50).2.1 HSL.out.2).mono ?_
          rintro r w51 ⟨hv51, rfl, lh51, y51, fr51⟩
          have HL51 := Lib.hid (And.intro lh51.row (fun (q : Nat) (hq : fp hv51 q) => (And.intro (fr51 q (fp_ob hq)) (Sl.lt lh51.row (by decide) hq))))
          have on51 := Sl.one lh51.row
          clear lh51 fr51
          have E51 : Ext w0 w51 := Mod.trans E50 y51
          refine hK.out _ _ (⟨(KE.out _ E51).2.2.1.cells.1, (KE.out _ E51).2.2.1.cells.2, (KE.out _ E51).2.2.2.cells.1, (KE.out _ E51).2.2.2.cells.2⟩) ?_
          clear hK K
          (try simp only [Act.put, List.setIfInBounds_toArray, List.set_cons_zero, List.set_cons_succ])
          refine planT_fork ?_
          refine planT_store rfl rfl rfl rfl ((Ext.blk y51 HG50.out.2.2.1)) (by kernel_rfl) rfl (logArr_all (by assumption) ovp) (fun w52 m52 hs52 hb52 => ?_) planT_end
          have E52 : Ext w0 w52 := Mod.trans' E51 m52 (fun q hq => .inr (by obtain ⟨z44a, z44b, -, z44e, z44y, z44p⟩ := HG44.out; have z44f := z44e.size; have z44g := z44y.size; have z44q := z44p.size; obtain ⟨z50a, z50b, -, z50e, z50y, z50p⟩ := HG50.out; have z50f := z50e.size; have z50g := z50y.size; have z50q := z50p.size; have sy44 := y44.size; have sy45 := y45.size; have sy50 := y50.size; have sy51 := y51.size; subst hq; omega))
          have HG52 := Lib.hid (And.intro hs52 (And.intro hb52 m52))
          clear hs52 hb52
          refine ⟨fun h => (by cases h), ?_⟩
          (try simp only [Act.put])
          refine planT_fork ?_
          refine planT_store rfl rfl rfl rfl ((Mod.blk m52 (Ext.blk y51 (Ext.blk y50 (Ext.blk y45 HG44.out.2.2.1))) (by obtain ⟨z44a, z44b, -, z44e, z44y, z44p⟩ := HG44.out; have z44f := z44e.size; have z44g := z44y.size; have z44q := z44p.size; obtain ⟨z50a, z50b, -, z50e, z50y, z50p⟩ := HG50.out; have z50f := z50e.size; have z50g := z50y.size; have z50q := z50p.size; have sy44 := y44.size; have sy45 := y45.size; have sy50 := y50.size; have sy51 := y51.size; omega))) (by kernel_rfl) rfl (logArr_all (by assumption) oup) (fun w53 m53 hs53 hb53 => ?_) planT_end
          have E53 : Ext w0 w53 := Mod.trans' E52 m53 (fun q hq => .inr (by obtain ⟨z44a, z44b, -, z44e, z44y, z44p⟩ := HG44.out; have z44f := z44e.size; have z44g := z44y.size; have z44q := z44p.size; obtain ⟨z50a, z50b, -, z50e, z50y, z50p⟩ := HG50.out; have z50f := z50e.size; have z50g := z50y.size; have z50q := z50p.size; have sy44 := y44.size; have sy45 := y45.size; have sy50 := y50.size; have sy51 := y51.size; subst hq; omega))
          have HG53 := Lib.hid (And.intro hs53 (And.intro hb53 m53))
          clear hs53 hb53
          refine ⟨fun h => (by cases h), ?_⟩
          (try simp only [Act.put])
          refine planT_nil ?_
          go_wp2_with fail
          go_meet
          exact ⟨g50, g44, hv45, hv51, rfl, rfl, ⟨(Mod.blk m53 HG52.out.2.1 (by obtain ⟨z44a, z44b, -, z44e, z44y, z44p⟩ := HG44.out; have z44f := z44e.size; have z44g := z44y.size; have z44q := z44p.size; obtain ⟨z50a, z50b, -, z50e, z50y, z50p⟩ := HG50.out; have z50f := z50e.size; have z50g := z50y.size; have z50q := z50p.size; have sy44 := y44.size; have sy45 := y45.size; have sy50 := y50.size; have sy51 := y51.size; omega))⟩, ⟨HG53.out.2.1⟩, ⟨(Sl.mod (Sl.mod (Sl.ext (Sl.ext HL45.out.1 (by decide) y50) (by decide) y51) (by decide) m52 (fun q hq hl => by have hf := HL45.out.2 q hq; obtain ⟨z44a, z44b, -, z44e, z44y, z44p⟩ := HG44.out; have z44f := z44e.size; have z44g := z44y.size; have z44q := z44p.size; obtain ⟨z50a, z50b, -, z50e, z50y, z50p⟩ := HG50.out; have z50f := z50e.size; have z50g := z50y.size; have z50q := z50p.size; have sy44 := y44.size; have sy45 := y45.size; have sy50 := y50.size; have sy51 := y51.size; subst hl; simp only [World.size_drew] at *; omega)) (by decide) m53 (fun q hq hl => by have hf := HL45.out.2 q hq; obtain ⟨z44a, z44b, -, z44e, z44y, z44p⟩ := HG44.out; have z44f := z44e.size; have z44g := z44y.size; have z44q := z44p.size; obtain ⟨z50a, z50b, -, z50e, z50y, z50p⟩ := HG50.out; have z50f := z50e.size; have z50g := z50y.size; have z50q := z50p.size; have sy44 := y44.size; have sy45 := y45.size; have sy50 := y50.size; have sy51 := y51.size; subst hl; simp only [World.size_drew] at *; omega)), (KE.out _ E53).1.ev, (KE.out _ E53).1.prow, (KE.out _ E53).1.pok⟩, ⟨(Sl.mod (Sl.mod HL51.out.1 (by decide) m52 (fun q hq hl => by have hf := HL51.out.2 q hq; obtain ⟨z44a, z44b, -, z44e, z44y, z44p⟩ := HG44.out; have z44f := z44e.size; have z44g := z44y.size; have z44q := z44p.size; obtain ⟨z50a, z50b, -, z50e, z50y, z50p⟩ := HG50.out; have z50f := z50e.size; have z50g := z50y.size; have z50q := z50p.size; have sy44 := y44.size; have sy45 := y45.size; have sy50 := y50.size; have sy51 := y51.size; subst hl; simp only [World.size_drew] at *; omega)) (by decide) m53 (fun q hq hl => by have hf := HL51.out.2 q hq; obtain ⟨z44a, z44b, -, z44e, z44y, z44p⟩ := HG44.out; have z44f := z44e.size; have z44g := z44y.size; have z44q := z44p.size; obtain ⟨z50a, z50b, -, z50e, z50y, z50p⟩ := HG50.out; have z50f := z50e.size; have z50g := z50y.size; have z50q := z50p.size; have sy44 := y44.size; have sy45 := y45.size; have sy50 := y50.size; have sy51 := y51.size; subst hl; simp only [World.size_drew] at *; omega)), (KE.out _ E53).2.1.ev, (KE.out _ E53).2.1.prow, (KE.out _ E53).2.1.pok⟩, E53⟩
        refine planT_alloc rfl rfl (fun w => Try.zeroValue35 w) rfl (fun g54 w54 y54 hg54 hs54 hb54 => ?_) planT_end
        have E54 : Ext w0 w54 := Mod.trans E44 y54
        have HG54 := Lib.hid (And.intro hg54 (And.intro hs54 (And.intro hb54 (And.intro E54 (And.intro y54 E44)))))
        clear hg54 hs54 hb54
        refine ⟨fun _ => ⟨(KE.out _ E54).2.2.1.cells.1, (KE.out _ E54).2.2.1.cells.2, (KE.out _ E54).2.2.2.cells.1, (KE.out _ E54).2.2.2.cells.2⟩, ?_⟩
        (try simp only [Act.put, List.setIfInBounds_toArray, List.set_cons_zero, List.set_cons_succ])
        refine planT_fork ?_
        refine planT_alt (fun K hK => ?_) planT_end
        go_simp
        go_at_call 20
        refine (rlogf_any _ ve vp V L (KE.out _ E54).1 HSL.out.1).mono ?_
        rintro r w55 ⟨hv55, rfl, lh55, y55, fr55⟩
        have HL55 := Lib.hid (And.intro lh55.row (fun (q : Nat) (hq : fp hv55 q) => (And.intro (fr55 q (fp_ob hq)) (Sl.lt lh55.row (by decide) hq))))
        have on55 := Sl.one lh55.row
        clear lh55 fr55
        have E55 : Ext w0 w55 := Mod.trans E54 y55
        refine hK.out _ _ (⟨(KE.out _ E55).2.2.1.cells.1, (KE.out _ E55).2.2.1.cells.2, (KE.out _ E55).2.2.2.cells.1, (KE.out _ E55).2.2.2.cells.2⟩) ?_
        clear hK K
        (try simp only [Act.put, List.setIfInBounds_toArray, List.set_cons_zero, List.set_cons_succ])
        refine planT_fork ?_
        refine planT_alt (fun K hK => ?_) planT_end
        go_simp
        go_at_call 20
        refine (rlogf_any _ ue up U Lk (KE.out _ E55).2.1 HSL.out.2).mono ?_
        rintro r w56 ⟨hv56, rfl, lh56, y56, fr56⟩
        have HL56 := Lib.hid (And.intro lh56.row (fun (q : Nat) (hq : fp hv56 q) => (And.intro (fr56 q (fp_ob hq)) (Sl.lt lh56.row (by decide) hq))))
        have on56 := Sl.one lh56.row
        clear lh56 fr56
        have E56 : Ext w0 w56 := Mod.trans E55 y56
        refine hK.out _ _ (⟨(KE.out _ E56).2.2.1.cells.1, (KE.out _ E56).2.2.1.cells.2, (KE.out _ E56).2.2.2.cells.1, (KE.out _ E56).2.2.2.cells.2⟩) ?_
        clear hK K
        (try simp only [Act.put, List.setIfInBounds_toArray, List.set_cons_zero, List.set_cons_succ])
        refine planT_fork ?_
        refine planT_store rfl rfl rfl rfl ((Ext.blk y56 (Ext.blk y55 HG54.out.2.2.1))) (by kernel_rfl) rfl (logArr_all (by assumption) ovp) (fun w57 m57 hs57 hb57 => ?_) planT_end
        have E57 : Ext w0 w57 := Mod.trans' E56 m57 (fun q hq => .inr (by obtain ⟨z44a, z44b, -, z44e, z44y, z44p⟩ := HG44.out; have z44f := z44e.size; have z44g := z44y.size; have z44q := z44p.size; obtain ⟨z54a, z54b, -, z54e, z54y, z54p⟩ := HG54.out; have z54f := z54e.size; have z54g := z54y.size; have z54q := z54p.size; have sy44 := y44.size; have sy54 := y54.size; have sy55 := y55.size; have sy56 := y56.size; subst hq; omega))
        have HG57 := Lib.hid (And.intro hs57 (And.intro hb57 m57))
        clear hs57 hb57
        refine ⟨fun h => (by cases h), ?_⟩
        (try simp only [Act.put])
        refine planT_fork ?_
        refine planT_store rfl rfl rfl rfl ((Mod.blk m57 (Ext.blk y56 (Ext.blk y55 (Ext.blk y54 HG44.out.2.2.1))) (by obtain ⟨z44a, z44b, -, z44e, z44y, z44p⟩ := HG44.out; have z44f := z44e.size; have z44g := z44y.size; have z44q := z44p.size; obtain ⟨z54a, z54b, -, z54e, z54y, z54p⟩ := HG54.out; have z54f := z54e.size; have z54g := z54y.size; have z54q := z54p.size; have sy44 := y44.size; have sy54 := y54.size; have sy55 := y55.size; have sy56 := y56.size; omega))) (by kernel_rfl) rfl (logArr_all (by assumption) oup) (fun w58 m58 hs58 hb58 => ?_) planT_end
        have E58 : Ext w0 w58 := Mod.trans' E57 m58 (fun q hq => .inr (by obtain ⟨z44a, z44b, -, z44e, z44y, z44p⟩ := HG44.out; have z44f := z44e.size; have z44g := z44y.size; have z44q := z44p.size; obtain ⟨z54a, z54b, -, z54e, z54y, z54p⟩ := HG54.out; have z54f := z54e.size; have z54g := z54y.size; have z54q := z54p.size; have sy44 := y44.size; have sy54 := y54.size; have sy55 := y55.size; have sy56 := y56.size; subst hq; omega))
        have HG58 := Lib.hid (And.intro hs58 (And.intro hb58 m58))
        clear hs58 hb58
        refine ⟨fun h => (by cases h), ?_⟩
        (try simp only [Act.put])
        refine planT_nil ?_
        go_wp2_with fail
        go_meet
        exact ⟨g54, g44, hv55, hv56, rfl, rfl, ⟨(Mod.blk m58 HG57.out.2.1 (by obtain ⟨z44a, z44b, -, z44e, z44y, z44p⟩ := HG44.out; have z44f := z44e.size; have z44g := z44y.size; have z44q := z44p.size; obtain ⟨z54a, z54b, -, z54e, z54y, z54p⟩ := HG54.out; have z54f := z54e.size; have z54g := z54y.size; have z54q := z54p.size; have sy44 := y44.size; have sy54 := y54.size; have sy55 := y55.size; have sy56 := y56.size; omega))⟩, ⟨HG58.out.2.1⟩, ⟨(Sl.mod (Sl.mod (Sl.ext HL55.out.1 (by decide) y56) (by decide) m57 (fun q hq hl => by have hf := HL55.out.2 q hq; obtain ⟨z44a, z44b, -, z44e, z44y, z44p⟩ := HG44.out; have z44f := z44e.size; have z44g := z44y.size; have z44q := z44p.size; obtain ⟨z54a, z54b, -, z54e, z54y, z54p⟩ := HG54.out; have z54f := z54e.size; have z54g := z54y.size; have z54q := z54p.size; have sy44 := y44.size; have sy54 := y54.size; have sy55 := y55.size; have sy56 := y56.size; subst hl; simp only [World.size_drew] at *; omega)) (by decide) m58 (fun q hq hl => by have hf := HL55.out.2 q hq; obtain ⟨z44a, z44b, -, z44e, z44y, z44p⟩ := HG44.out; have z44f := z44e.size; have z44g := z44y.size; have z44q := z44p.size; obtain ⟨z54a, z54b, -, z54e, z54y, z54p⟩ := HG54.out; have z54f := z54e.size; have z54g := z54y.size; have z54q := z54p.size; have sy44 := y44.size; have sy54 := y54.size; have sy55 := y55.size; have sy56 := y56.size; subst hl; simp only [World.size_drew] at *; omega)), (KE.out _ E58).1.ev, (KE.out _ E58).1.prow, (KE.out _ E58).1.pok⟩, ⟨(Sl.mod (Sl.mod HL56.out.1 (by decide) m57 (fun q hq hl => by have hf := HL56.out.2 q hq; obtain ⟨z44a, z44b, -, z44e, z44y, z44p⟩ := HG44.out; have z44f := z44e.size; have z44g := z44y.size; have z44q := z44p.size; obtain ⟨z54a, z54b, -, z54e, z54y, z54p⟩ := HG54.out; have z54f := z54e.size; have z54g := z54y.size; have z54q := z54p.size; have sy44 := y44.size; have sy54 := y54.size; have sy55 := y55.size; have sy56 := y56.size; subst hl; simp only [World.size_drew] at *; omega)) (by decide) m58 (fun q hq hl => by have hf := HL56.out.2 q hq; obtain ⟨z44a, z44b, -, z44e, z44y, z44p⟩ := HG44.out; have z44f := z44e.size; have z44g := z44y.size; have z44q := z44p.size; obtain ⟨z54a, z54b, -, z54e, z54y, z54p⟩ := HG54.out; have z54f := z54e.size; have z54g := z54y.size; have z54q := z54p.size; have sy44 := y44.size; have sy54 := y54.size; have sy55 := y55.size; have sy56 := y56.size; subst hl; simp only [World.size_drew] at *; omega)), (KE.out _ E58).2.1.ev, (KE.out _ E58).2.1.prow, (KE.out _ E58).2.1.pok⟩, E58⟩
      case rest =>
        obtain ⟨g7, g8, hx, hy, rfl, rfl, b7, b8, lx, ly, hc⟩ := hcut
        have KX : Hid (∀ w', Ext wc w' → (LogIn w' ve vp V L ∧ LogIn w' ue up U Lk ∧ LogIn w' hx vp V L ∧ LogIn w' hy up U Lk) ∧ LogBox w' g ve vp ∧ LogBox w' (g + 1) ue up ∧ RLogBox w' g7 hx vp ∧ RLogBox w' g8 hy up) := Lib.hid fun w' x => by
          obtain ⟨z1, z2, z3, z4⟩ := KE.out _ (hc.trans x)
          exact ⟨⟨z1, z2, lx.ext x, ly.ext x⟩, z3, z4, b7.ext x, b8.ext x⟩
        have HC := Lib.hid hc
        clear b7 b8 lx ly hc X2
        obtain ⟨c0, c1⟩ := (KX.out _ (Mod.refl _ _)).2.1.cells
        go_wp2_with fail
        refine (head_any _ ve vp V L (KX.out _ (Mod.refl _ _)).1.1 n HI.out HS.out.1).mono ?_
        rintro r w5' ⟨hv, pv, V3, rfl, o5, y5, f5⟩
        have l5 := head_in (KX.out _ (Mod.refl _ _)).1.1 o5
        have k3 := Sl.cells_eq l5.row
        have k4 := Sl.cells_eq l5.prow
        have t3 := Sl.run_st (P := Try.prog) l5.row
        have t4 := Sl.run_st (P := Try.prog) l5.prow
        have H5 := Lib.hid (And.intro l5 (And.intro y5 (And.intro o5 f5)))
        clear o5 y5 l5 f5 c0 c1
        obtain ⟨w5, hw5⟩ : ∃ w5, w5 = wc := ⟨_, rfl⟩
        have HW5 := Lib.hid hw5
        clear hw5
        go_upto_region 7 with fail
        obtain ⟨w6, hw6⟩ : ∃ w6, w6 = w5'.alloc (.cells #[hv, pv] 25) := ⟨_, rfl⟩
        obtain ⟨g9, hg9⟩ : ∃ g, g = w5'.heap.size := ⟨_, rfl⟩
        have x6 : Ext w5' w6 := by rw [hw6]; exact (Mod.refl _ _).alloc _
        have b9 : LogBox w6 g9 hv pv := ⟨by rw [hw6, hg9]; exact heap_alloc_new _ _⟩
        rw [← hw6, ← hg9]
        have KL : Hid (∀ w', Ext w6 w' → LogIn w' ve vp V L ∧ LogIn w' ue up U Lk ∧ LogIn w' hx vp V L ∧ LogIn w' hy up U Lk ∧ LogIn w' hv pv V3 (headL L n)) := Lib.hid fun w' x => by
          obtain ⟨z1, z2, z3, z4⟩ := (KX.out _ (H5.out.2.1.trans (x6.trans x))).1
          exact ⟨z1, z2, z3, z4, H5.out.1.ext (x6.trans x)⟩
        have KF : Hid (∀ w', Ext w6 w' → w'.cell? ⟨g, 0, none⟩ = some ve ∧ w'.cell? ⟨g, 1, none⟩ = some vp ∧ w'.cell? ⟨g + 1, 0, none⟩ = some ue ∧ w'.cell? ⟨g + 1, 1, none⟩ = some up ∧ w'.cell? ⟨g7, 0, none⟩ = some hx ∧ w'.cell? ⟨g7, 1, none⟩ = some vp ∧ w'.cell? ⟨g8, 0, none⟩ = some hy ∧ w'.cell? ⟨g8, 1, none⟩ = some up ∧ w'.cell? ⟨g9, 0, none⟩ = some hv ∧ w'.cell? ⟨g9, 1, none⟩ = some pv) := Lib.hid fun w' x => by
          obtain ⟨-, z3, z4, z5, z6⟩ := KX.out _ (H5.out.2.1.trans (x6.trans x))
          exact ⟨z3.cells.1, z3.cells.2, z4.cells.1, z4.cells.2, z5.cells.1, z5.cells.2, z6.cells.1, z6.cells.2, (b9.ext x).cells.1, (b9.ext x).cells.2⟩
        have HHL : Hid ((headL L n).ev.length ≤ 1000) := Lib.hid (small_head HS.out.1 n).ev
        have HO6 : Hid (LogOwn w6 hv pv V3 (headL L n) ∧ LogBox w6 g9 hv pv ∧ Ext wc w6) := Lib.hid ⟨H5.out.2.2.1.ext x6, b9, H5.out.2.1.trans x6⟩
        clear hw6 hg9 x6 b9 t3 t4
        obtain ⟨M, hM⟩ : ∃ B, B = mayL L := ⟨_, rfl⟩
        obtain ⟨Q, hQ⟩ : ∃ B, B = lgSame L Lk := ⟨_, rfl⟩
        have HM := Lib.hid hM.symm
        have HQ := Lib.hid hQ.symm
        have hmm : (M != M) = false := by simp
        have hqq : (Q != Q) = false := by simp
        clear hM hQ
        refine wp_region_plan [(0, true), (2, true), (3, true), (1, false), (4, false), (5, false), (6, true), (7, true), (8, true), (10, true), (9, false), (11, false), (12, true), (13, true), (14, true), (15, true), (16, true), (18, true), (19, true), (17, false), (20, false), (21, true), (22, true), (23, true), (24, true), (25, true), (26, false), (27, true), (28, true)] (fun w' => w'.cell? ⟨g, 0, none⟩ = some ve ∧ w'.cell? ⟨g, 1, none⟩ = some vp ∧ w'.cell? ⟨g + 1, 0, none⟩ = some ue ∧ w'.cell? ⟨g + 1, 1, none⟩ = some up ∧ w'.cell? ⟨g7, 0, none⟩ = some hx ∧ w'.cell? ⟨g7, 1, none⟩ = some vp ∧ w'.cell? ⟨g8, 0, none⟩ = some hy ∧ w'.cell? ⟨g8, 1, none⟩ = some up ∧ w'.cell? ⟨g9, 0, none⟩ = some hv ∧ w'.cell? ⟨g9, 1, none⟩ = some pv) (by kernel_rfl) (by kernel_rfl) (by kernel_rfl) (fun _ d _ _ _ h => by cases d <;> exact h) (KF.out _ (Mod.drew (Mod.refl _ _))) ?_
        simp only [planL, getO]
        iterate 3 (refine plan_take (v := ?_) (by rfl) (fun wS hS => ?_) ?_; rotate_left; (focus ((try dsimp only at hS); go_simp; (try with_reducible rfl); done)); (try simp only [Act.put, List.setIfInBounds_toArray, List.set_cons_zero, List.set_cons_succ]))
        refine plan_call (fun K hK => ?_)
        go_simp
        go_at_call 20; refine (rlog_any _ hv pv V3 (headL L n) (KL.out _ (Mod.drew (Mod.refl _ _))).2.2.2.2 HHL.out).mono ?_; rintro en v1 ⟨hh, rfl, lh, u1⟩; have U1 : Ext w6 v1 := Mod.trans (Mod.drew (Mod.refl _ _)) u1; have HH := Lib.hid lh; clear lh
        refine hK.out _ _ (KF.out _ U1) ?_
        clear hK K
        (try simp only [Act.put, List.setIfInBounds_toArray, List.set_cons_zero, List.set_cons_succ])
        refine plan_call (fun K hK => ?_)
        go_simp
        go_at_call 42; refine (rhead_any _ hx vp V L (KL.out _ U1).2.2.1 n HI.out HS.out.1).mono ?_; rintro en v2 ⟨kv, kp, V4, rfl, ok, u2, -⟩; have U2 : Ext w6 v2 := Mod.trans U1 u2; have HK := Lib.hid (rhead_in (KL.out _ U1).2.2.1 ok); clear ok
        refine hK.out _ _ (KF.out _ U2) ?_
        clear hK K
        (try simp only [Act.put, List.setIfInBounds_toArray, List.set_cons_zero, List.set_cons_succ])
        refine plan_call (fun K hK => ?_)
        go_simp
        go_at_call 41; refine (rlsame_any _ hh pv kv kp V3 V4 _ _ (HH.out.ext u2) HK.out).mono ?_; rintro en v3 ⟨rfl, u3⟩; have U3 : Ext w6 v3 := Mod.trans U2 u3; rw [lgSame_iff.2 rfl]
        refine hK.out _ _ (KF.out _ U3) ?_
        clear hK K
        (try simp only [Act.put, List.setIfInBounds_toArray, List.set_cons_zero, List.set_cons_succ])
        iterate 4 (refine plan_take (v := ?_) (by rfl) (fun wS hS => ?_) ?_; rotate_left; (focus ((try dsimp only at hS); go_simp; (try with_reducible rfl); done)); (try simp only [Act.put, List.setIfInBounds_toArray, List.set_cons_zero, List.set_cons_succ]))
        refine plan_call (fun K hK => ?_)
        go_simp
        go_at_call 27; refine (may_any _ ve vp V L (KL.out _ U3).1).mono ?_; rintro en v4 ⟨rfl, u4⟩; have U4 : Ext w6 v4 := Mod.trans U3 u4; rw [HM.out]
        refine hK.out _ _ (KF.out _ U4) ?_
        clear hK K
        (try simp only [Act.put, List.setIfInBounds_toArray, List.set_cons_zero, List.set_cons_succ])
        refine plan_call (fun K hK => ?_)
        go_simp
        go_at_call 43; refine (rmay_any _ hx vp V L (KL.out _ U4).2.2.1 HSM.out).mono ?_; rintro en v5 ⟨rfl, u5⟩; have U5 : Ext w6 v5 := Mod.trans U4 u5; rw [HM.out]
        refine hK.out _ _ (KF.out _ U5) ?_
        clear hK K
        (try simp only [Act.put, List.setIfInBounds_toArray, List.set_cons_zero, List.set_cons_succ])
        iterate 7 (refine plan_take (v := ?_) (by rfl) (fun wS hS => ?_) ?_; rotate_left; (focus ((try dsimp only at hS); go_simp; (try with_reducible rfl); done)); (try simp only [Act.put, List.setIfInBounds_toArray, List.set_cons_zero, List.set_cons_succ]))
        refine plan_call (fun K hK => ?_)
        go_simp
        go_at_call 44; refine (lsame_any _ ve vp ue up V U L Lk (KL.out _ U5).1 (KL.out _ U5).2.1).mono ?_; rintro en v6 ⟨rfl, u6⟩; have U6 : Ext w6 v6 := Mod.trans U5 u6; rw [HQ.out]
        refine hK.out _ _ (KF.out _ U6) ?_
        clear hK K
        (try simp only [Act.put, List.setIfInBounds_toArray, List.set_cons_zero, List.set_cons_succ])
        refine plan_call (fun K hK => ?_)
        go_simp
        go_at_call 41; refine (rlsame_any _ hx vp hy up V U L Lk (KL.out _ U6).2.2.1 (KL.out _ U6).2.2.2.1).mono ?_; rintro en v7 ⟨rfl, u7⟩; have U7 : Ext w6 v7 := Mod.trans U6 u7; rw [HQ.out]
        refine hK.out _ _ (KF.out _ U7) ?_
        clear hK K
        (try simp only [Act.put, List.setIfInBounds_toArray, List.set_cons_zero, List.set_cons_succ])
        iterate 5 (refine plan_take (v := ?_) (by rfl) (fun wS hS => ?_) ?_; rotate_left; (focus ((try dsimp only at hS); go_simp; (try with_reducible rfl); done)); (try simp only [Act.put, List.setIfInBounds_toArray, List.set_cons_zero, List.set_cons_succ]))
        refine plan_call (fun K hK => ?_)
        go_simp
        go_at_call 44; refine (lsame_any _ ve vp ve vp V V L L (KL.out _ U7).1 (KL.out _ U7).1).mono ?_; rintro en v8 ⟨rfl, u8⟩; have U8 : Ext w6 v8 := Mod.trans U7 u8; rw [lgSame_iff.2 rfl]
        refine hK.out _ _ (KF.out _ U8) ?_
        clear hK K
        (try simp only [Act.put, List.setIfInBounds_toArray, List.set_cons_zero, List.set_cons_succ])
        iterate 2 (refine plan_take (v := ?_) (by rfl) (fun wS hS => ?_) ?_; rotate_left; (focus ((try dsimp only at hS); go_simp; (try with_reducible rfl); done)); (try simp only [Act.put, List.setIfInBounds_toArray, List.set_cons_zero, List.set_cons_succ]))
        refine plan_nil ?_
        obtain ⟨wb, hwb⟩ : ∃ wb, wb = v8 := ⟨_, rfl⟩
        have HOB : Hid (LogOwn wb hv pv V3 (headL L n) ∧ LogBox wb g9 hv pv ∧ Ext wc wb) := Lib.hid (by rw [hwb]; exact ⟨HO6.out.1.ext U8, HO6.out.2.1.ext U8, HO6.out.2.2.trans U8⟩)
        rw [← hwb]
        clear hwb U1 U2 U3 U4 U5 U6 U7 U8
        obtain ⟨H, hH⟩ : ∃ H, H = headL L n := ⟨_, rfl⟩
        rw [← hH] at HOB HHL
        have hHe : ∀ i, i < H.ev.length → (evn H.ev i).fr.length ≤ 20000 := fun i hi => by rw [hH] at hi ⊢; exact ((small_head HS.out.1 n).ls i hi).2.2
        have HHE := Lib.hid hHe
        have HOI : Hid (LogIn w5' hv pv V3 H) := Lib.hid (by rw [hH]; exact H5.out.1)
        have HFR : Hid (∀ i q, i < H.ev.length → (V3 i).f.ownBlock = some q → wc.heap.size ≤ q) := Lib.hid fun i q hi hq => H5.out.2.2.2 q (.inr (.inr ⟨i, by rw [← hH]; exact hi, .inr (.inr hq)⟩))
        have hle : (H.ev.length : Int) ≤ 1000 := by have := HHL.out; omega
        have l9 := HOI.out.row.run_len (P := Try.prog) IEv.und 3
        have I9 := Lib.hid (HOI.out.row.run_idx (P := Try.prog) IEv.und IEv.size .i64)
        clear hH hHe
        go_wp2_with fail
        go_loopw [10] (fun s wr => ∃ i : Nat, i ≤ H.ev.length ∧ s = .int .i64 (i : Int) ∧ NegRel wb V3 H wr) (fun s _ => H.ev.length - (intOf s).toNat)
        case atStart => exact ⟨0, Nat.zero_le _, rfl, NegRel.start HOB.out.1⟩
        case round =>
          obtain ⟨i, hi, rfl, hr⟩ := hrel
          have HR := Lib.hid hr
          obtain ⟨c0, -⟩ := (hr.box HOB.out.1 HOB.out.2.1).cells
          clear hr
          by_cases hlt : i < H.ev.length
          · have hlt' : (i : Int) < (H.ev.length : Int) := by omega
            have i0 := I9.out i hlt
            have hia := (HOI.out.ev i hlt).fr
            have l11 := hia.sl.run_len (P := Try.prog) II.und 3
            have J11 := Lib.hid (hia.sl.run_idx (P := Try.prog) II.und II.size .i64)
            have hfl : ((evn H.ev i).fr.length : Int) ≤ 20000 := by have := HHE.out i hlt; omega
            obtain ⟨m, hm⟩ : ∃ m, m = (evn H.ev i).fr.length := ⟨_, rfl⟩
            obtain ⟨fv, hfv⟩ : ∃ v, v = (V3 i).f := ⟨_, rfl⟩
            obtain ⟨A, hA⟩ : ∃ A, A = at_ hv (i * 10) := ⟨_, rfl⟩
            rw [← hm] at l11 J11 hfl
            rw [← hfv] at l11 J11
            rw [← hA] at i0
            have KR : Hid (∀ w', NegRel wb V3 H w' → w'.cell? ⟨g9, 0, none⟩ = some hv ∧ w'.cell? ⟨A.block, A.off + 9, none⟩ = some fv) := Lib.hid fun w' z => by
              have h1 := (evrow_cells (z.row HOB.out.1) hlt).2.2.2.2.2.2.2.2.2
              rw [← hA, ← hfv] at h1
              exact ⟨(z.box HOB.out.1 HOB.out.2.1).cells.1, h1⟩
            have HMF := Lib.hid (And.intro hm hfv)
            clear hia hm hfv hA
            go_wp2_with fail
            clear c0
            go_loopw [11] (fun s wr => ∃ k : Nat, k ≤ m ∧ s = .int .i64 (k : Int) ∧ NegRel wb V3 H wr) (fun s _ => m - (intOf s).toNat)
            case atStart => exact ⟨0, Nat.zero_le _, rfl, HR.out⟩
            case round =>
              obtain ⟨k, hk, rfl, hr⟩ := hrel
              have HR2 := Lib.hid hr
              obtain ⟨c0, c9⟩ := KR.out _ hr
              clear hr
              by_cases hkl : k < m
              · have hkl' : (k : Int) < (m : Int) := by omega
                have j0 := J11.out k hkl
                simp only [Nat.mul_one] at j0
                have HKM : Hid (k < (evn H.ev i).fr.length) := Lib.hid (by rw [← HMF.out.1]; exact hkl)
                obtain ⟨⟨x, hx⟩, hfz⟩ := HR2.out.ce i k hlt HKM.out
                rw [← HMF.out.2] at hx hfz
                have HNS : Hid (NegRel wb V3 H (wr.setCell (at_ fv k) (.int .i64 (-9)))) := Lib.hid (by rw [HMF.out.2]; exact HR2.out.step HOB.out.1 hlt HKM.out _)
                go_wp2_with fail
                go_roundw
                case rel => exact ⟨k + 1, by omega, by go_num, HNS.out⟩
                case measure => simp [intOf]; omega
              · have hkl' : ¬ (k : Int) < (m : Int) := by omega
                go_wp2_with fail
                go_roundw
                case rel => exact ⟨i + 1, by omega, by go_num, HR2.out⟩
                case measure => simp [intOf]; omega
          · have hlt' : ¬ (i : Int) < (H.ev.length : Int) := by omega
            have XN : Hid (Ext wc wr) := Lib.hid (HOB.out.2.2.trans' HR.out.md (fun q ⟨j, hj, hl⟩ => .inr (HFR.out j q hj hl)))
            have KP : Hid (∀ w', Ext wc w' → LogIn w' ve vp V L ∧ LogIn w' hx vp V L) := Lib.hid fun w' z => ⟨(KX.out _ z).1.1, (KX.out _ z).1.2.2.1⟩
            have KC : Hid (∀ w', Ext wc w' → w'.cell? ⟨g, 0, none⟩ = some ve ∧ w'.cell? ⟨g, 1, none⟩ = some vp ∧ w'.cell? ⟨g7, 0, none⟩ = some hx ∧ w'.cell? ⟨g7, 1, none⟩ = some vp) := Lib.hid fun w' z => ⟨(KX.out _ z).2.1.cells.1, (KX.out _ z).2.1.cells.2, (KX.out _ z).2.2.2.1.cells.1, (KX.out _ z).2.2.2.1.cells.2⟩
            go_upto_region 16 with fail
            clear c0
            refine wp_region_plan [(0, false), (1, true), (2, true), (4, true), (3, false), (5, false), (6, true), (7, true), (8, true)] (fun w' => w'.cell? ⟨g, 0, none⟩ = some ve ∧ w'.cell? ⟨g, 1, none⟩ = some vp ∧ w'.cell? ⟨g7, 0, none⟩ = some hx ∧ w'.cell? ⟨g7, 1, none⟩ = some vp) (by kernel_rfl) (by kernel_rfl) (by kernel_rfl) (fun _ d _ _ _ h => by cases d <;> exact h) (KC.out _ (Mod.drew XN.out)) ?_
            simp only [planL, getO]
            refine plan_call (fun K hK => ?_)
            go_simp
            go_at_call 31; refine (first14_any _).mono ?_; rintro en v1 ⟨rfl, u1⟩; have U1 : Ext wc v1 := Mod.trans (Mod.drew XN.out) u1
            refine hK.out _ _ (KC.out _ U1) ?_
            clear hK K
            (try simp only [Act.put, List.setIfInBounds_toArray, List.set_cons_zero, List.set_cons_succ])
            iterate 3 (refine plan_take (v := ?_) (by rfl) (fun wS hS => ?_) ?_; rotate_left; (focus ((try dsimp only at hS); go_simp; (try with_reducible rfl); done)); (try simp only [Act.put, List.setIfInBounds_toArray, List.set_cons_zero, List.set_cons_succ]))
            refine plan_call (fun K hK => ?_)
            go_simp
            go_at_call 27; refine (may_any _ ve vp V L (KP.out _ U1).1).mono ?_; rintro en v2 ⟨rfl, u2⟩; have U2 : Ext wc v2 := Mod.trans U1 u2; rw [HM.out]
            refine hK.out _ _ (KC.out _ U2) ?_
            clear hK K
            (try simp only [Act.put, List.setIfInBounds_toArray, List.set_cons_zero, List.set_cons_succ])
            refine plan_call (fun K hK => ?_)
            go_simp
            go_at_call 43; refine (rmay_any _ hx vp V L (KP.out _ U2).2 HSM.out).mono ?_; rintro en v3 ⟨rfl, u3⟩; have U3 : Ext wc v3 := Mod.trans U2 u3; rw [HM.out]
            refine hK.out _ _ (KC.out _ U3) ?_
            clear hK K
            (try simp only [Act.put, List.setIfInBounds_toArray, List.set_cons_zero, List.set_cons_succ])
            iterate 3 (refine plan_take (v := ?_) (by rfl) (fun wS hS => ?_) ?_; rotate_left; (focus ((try dsimp only at hS); go_simp; (try with_reducible rfl); done)); (try simp only [Act.put, List.setIfInBounds_toArray, List.set_cons_zero, List.set_cons_succ]))
            refine plan_nil ?_
            go_wp2_with fail
            go_ret
            exact ⟨ret_bool (by simp), HW.out.2.2.trans (HC.out.trans U3)⟩
end Go.Proofs.Ytkibdabbjbcboaa
