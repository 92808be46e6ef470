/-
  EventAsks: the walk of renlaw14.EventAsks. No condition.
-/
import Derived.Test.YtkibdabbjbcboaaRvAt
namespace Go.Proofs.Ytkibdabbjbcboaa
open Go.Ren Go.RowKit
set_option linter.unusedVariables false

def AsksRel (w0 : World) (a b : Ev) (v u : Vs) (s5 s6 : Value) (wx : World) : Prop := ∃ g5 g6, s5 = .pointer (some ⟨g5, 0, none⟩) ∧ s6 = .pointer (some ⟨g6, 0, none⟩) ∧ REvBox wx g5 a v ∧ REvBox wx g6 b u ∧ Ext w0 wx
set_option maxRecDepth 100000 in
set_option maxHeartbeats 1600000 in
theorem asks_all (a b : Ev) (v u : Vs) (w : World) (ha : EvAt w a v) (hb : EvAt w b u) :
    Calls Try.prog 7 #[evV a v, evV b u] w (FPost true w) := by
  obtain ⟨k1, k2, k3, t1, t2, t3⟩ := ev_facts ha
  obtain ⟨k4, k5, k6, t4, t5, t6⟩ := ev_facts hb
  obtain ⟨w0, hw0⟩ : ∃ w0, w0 = (w.alloc (.cells (evArr a v) 46)).alloc (.cells (evArr b u) 46) := ⟨_, rfl⟩
  obtain ⟨g, hg⟩ : ∃ g, g = w.heap.size := ⟨_, rfl⟩
  have x0 : Ext w w0 := by rw [hw0]; exact ((Mod.refl _ _).alloc _).alloc _
  have b0 : EvBox w0 g a v := ⟨by rw [hw0, hg]; exact heap_alloc2_old _ _ _⟩
  have b1 : EvBox w0 (g + 1) b u := ⟨by rw [hw0, hg]; exact heap_alloc2_new _ _ _⟩
  have KE : Hid (∀ w', Ext w0 w' → EvBox w' g a v ∧ EvBox w' (g + 1) b u ∧ EvAt w' a v ∧ EvAt w' b u) := Lib.hid fun w' x => ⟨b0.ext x, b1.ext x, ha.ext (x0.trans x), hb.ext (x0.trans x)⟩
  have HW := Lib.hid (And.intro hw0 (And.intro hg x0))
  clear hw0 hg x0 b0 b1 ha hb
  unfold evV
  go_enter Try.func7, Try.ntmps7
  go_upto_region 1 with fail
  rw [← HW.out.1, ← HW.out.2.1]
  clear t1 t2 t3 t4 t5 t6
  go_wp2_with fail
  refine (first14_any _).mono ?_
  rintro e w1 ⟨rfl, x1⟩
  (try clear c0 c1 c2 c3 c4 c5 c6 c7 c8 c9 d0 d1 d2 d3 d4 d5 d6 d7 d8 d9)
  obtain ⟨c0, c1, c2, c3, c4, c5, c6, c7, c8, c9⟩ := (KE.out _ x1).1.cells
  obtain ⟨d0, d1, d2, d3, d4, d5, d6, d7, d8, d9⟩ := (KE.out _ x1).2.1.cells
  obtain ⟨-, -, -, t1, t2, t3⟩ := ev_facts (KE.out w1 x1).2.2.1
  obtain ⟨-, -, -, t4, t5, t6⟩ := ev_facts (KE.out w1 x1).2.2.2
  go_wp2_with fail
  clear t1 t2 t3 t4 t5 t6 k1 k2 k3 k4 k5 k6
  refine (few_any _ _ _ (fun i => if i = 0 then v else u) ⟨[a, b], []⟩ (log2_in ((KE.out w1 x1).2.2.1.ext ((Mod.refl _ _).alloc _)) ((KE.out w1 x1).2.2.2.ext ((Mod.refl _ _).alloc _)) (heap_alloc_new _ _)) 2 (by decide)).mono ?_
  rintro r w2 ⟨⟨r, rfl, -⟩, x2⟩
  have X2 : Ext w0 w2 := Mod.trans (Mod.alloc x1 _) x2
  (try clear c0 c1 c2 c3 c4 c5 c6 c7 c8 c9 d0 d1 d2 d3 d4 d5 d6 d7 d8 d9)
  obtain ⟨c0, c1, c2, c3, c4, c5, c6, c7, c8, c9⟩ := (KE.out _ X2).1.cells
  obtain ⟨d0, d1, d2, d3, d4, d5, d6, d7, d8, d9⟩ := (KE.out _ X2).2.1.cells
  cases r with
  | false =>
    go_wp2_with fail
    refine (first14_any _).mono ?_
    rintro e w3 ⟨rfl, x3⟩
    go_wp2_with fail
    go_ret
    exact ⟨rfl, (HW.out.2.2.trans X2).trans x3⟩
  | true =>
    go_wp2_with fail
    go_cut [5, 6] (fun s5 s6 wx => AsksRel w0 a b v u s5 s6 wx)
    case first =>
      refine wp_region_planT [6, 7] (.take 0 0 (.take 2 0 (.fork (.alt 1 (.fork (.alt 3 (.fork (.alt 4 (.fork (.alt 5 (.fork (.alt 6 (.fork (.alt 7 .nil .noalt)) .noalt)) .noalt)) (.alt 5 (.fork (.alt 4 (.fork (.alt 6 (.fork (.alt 7 .nil .noalt)) .noalt)) .noalt)) .noalt))) (.alt 4 (.fork (.alt 3 (.fork (.alt 5 (.fork (.alt 6 (.fork (.alt 7 .nil .noalt)) .noalt)) .noalt)) (.alt 5 (.fork (.alt 3 (.fork (.alt 6 (.fork (.alt 7 .nil .noalt)) .noalt)) .noalt)) .noalt))) (.alt 5 (.fork (.alt 3 (.fork (.alt 4 (.fork (.alt 6 (.fork (.alt 7 .nil .noalt)) .noalt)) .noalt)) (.alt 4 (.fork (.alt 3 (.fork (.alt 6 (.fork (.alt 7 .nil .noalt)) .noalt)) .noalt)) .noalt))) .noalt)))) (.alt 4 (.fork (.alt 1 (.fork (.alt 3 (.fork (.alt 5 (.fork (.alt 6 (.fork (.alt 7 .nil .noalt)) .noalt)) .noalt)) (.alt 5 (.fork (.alt 3 (.fork (.alt 6 (.fork (.alt 7 .nil .noalt)) .noalt)) .noalt)) .noalt))) (.alt 5 (.fork (.alt 1 (.fork (.alt 3 (.fork (.alt 6 (.fork (.alt 7 .nil .noalt)) .noalt)) .noalt)) .noalt)) .noalt))) (.alt 5 (.fork (.alt 1 (.fork (.alt 3 (.fork (.alt 4 (.fork (.alt 6 (.fork (.alt 7 .nil .noalt)) .noalt)) .noalt)) (.alt 4 (.fork (.alt 3 (.fork (.alt 6 (.fork (.alt 7 .nil .noalt)) .noalt)) .noalt)) .noalt))) (.alt 4 (.fork (.alt 1 (.fork (.alt 3 (.fork (.alt 6 (.fork (.alt 7 .nil .noalt)) .noalt)) .noalt)) .noalt)) .noalt))) .noalt)))))) (fun w' => w'.cell? ⟨g, 0, none⟩ = some (.int .i64 (a).ag) ∧ w'.cell? ⟨g, 1, none⟩ = some (.int .i64 (a).kind) ∧ w'.cell? ⟨g, 2, none⟩ = some (.bool (a).seq) ∧ w'.cell? ⟨g, 3, none⟩ = some (.bool (a).nt) ∧ w'.cell? ⟨g, 4, none⟩ = some (.int .i64 (a).blk) ∧ w'.cell? ⟨g, 5, none⟩ = some (.int .i64 (a).at_) ∧ w'.cell? ⟨g, 6, none⟩ = some (.int .i64 (a).size) ∧ w'.cell? ⟨g, 7, none⟩ = some v.r ∧ w'.cell? ⟨g, 8, none⟩ = some v.w ∧ w'.cell? ⟨g, 9, none⟩ = some v.f ∧ w'.cell? ⟨(g + 1), 0, none⟩ = some (.int .i64 (b).ag) ∧ w'.cell? ⟨(g + 1), 1, none⟩ = some (.int .i64 (b).kind) ∧ w'.cell? ⟨(g + 1), 2, none⟩ = some (.bool (b).seq) ∧ w'.cell? ⟨(g + 1), 3, none⟩ = some (.bool (b).nt) ∧ w'.cell? ⟨(g + 1), 4, none⟩ = some (.int .i64 (b).blk) ∧ w'.cell? ⟨(g + 1), 5, none⟩ = some (.int .i64 (b).at_) ∧ w'.cell? ⟨(g + 1), 6, none⟩ = some (.int .i64 (b).size) ∧ w'.cell? ⟨(g + 1), 7, none⟩ = some u.r ∧ w'.cell? ⟨(g + 1), 8, none⟩ = some u.w ∧ w'.cell? ⟨(g + 1), 9, none⟩ = some u.f) (by kernel_rfl) (by kernel_rfl) (by kernel_rfl) (fun _ d _ _ _ h => by cases d <;> exact h) (by obtain ⟨a0, a1, a2, a3, a4, a5, a6, a7, a8, a9⟩ := (KE.out _ (Mod.drew X2)).1.cells; obtain ⟨b0, b1, b2, b3, b4, b5, b6, b7, b8, b9⟩ := (KE.out _ (Mod.drew X2)).2.1.cells; exact ⟨a0, a1, a2, a3, a4, a5, a6, a7, a8, a9, b0, b1, b2, b3, b4, b5, b6, b7, b8, b9⟩) ?_
      simp (decide := true) only [planT, getO]
      (refine planT_take (v := ?_) (by rfl) (fun wS hS => ?_) ?_; rotate_left; (focus ((try dsimp only at hS); go_simp; (try with_reducible rfl); done)); (try simp only [Act.put, List.setIfInBounds_toArray, List.set_cons_zero, List.set_cons_succ]))
      (refine planT_take (v := ?_) (by rfl) (fun wS hS => ?_) ?_; rotate_left; (focus ((try dsimp only at hS); go_simp; (try with_reducible rfl); done)); (try simp only [Act.put, List.setIfInBounds_toArray, List.set_cons_zero, List.set_cons_succ]))
      refine planT_fork ?_
      refine planT_alt (fun K hK => ?_) ?_
      · go_simp
        go_at_call 32
        refine (event_any _ a v (KE.out _ (Mod.drew X2)).2.2.1).mono ?_
        rintro r w1 ⟨rfl, y1⟩
        have E1 : Ext w0 w1 := Mod.trans (Mod.drew X2) y1
        refine hK.out _ _ (by obtain ⟨a0, a1, a2, a3, a4, a5, a6, a7, a8, a9⟩ := (KE.out _ E1).1.cells; obtain ⟨b0, b1, b2, b3, b4, b5, b6, b7, b8, b9⟩ := (KE.out _ E1).2.1.cells; exact ⟨a0, a1, a2, a3, a4, a5, a6, a7, a8, a9, b0, b1, b2, b3, b4, b5, b6, b7, b8, b9⟩) ?_
        clear hK K
        (try simp only [Act.put, List.setIfInBounds_toArray, List.set_cons_zero, List.set_cons_succ])
        refine planT_fork ?_
        refine planT_alt (fun K hK => ?_) ?_
        · go_simp
          go_at_call 32
          refine (event_any _ b u (KE.out _ E1).2.2.2).mono ?_
          rintro r w2 ⟨rfl, y2⟩
          have E2 : Ext w0 w2 := Mod.trans E1 y2
          refine hK.out _ _ (by obtain ⟨a0, a1, a2, a3, a4, a5, a6, a7, a8, a9⟩ := (KE.out _ E2).1.cells; obtain ⟨b0, b1, b2, b3, b4, b5, b6, b7, b8, b9⟩ := (KE.out _ E2).2.1.cells; exact ⟨a0, a1, a2, a3, a4, a5, a6, a7, a8, a9, b0, b1, b2, b3, b4, b5, b6, b7, b8, b9⟩) ?_
          clear hK K
          (try simp only [Act.put, List.setIfInBounds_toArray, List.set_cons_zero, List.set_cons_succ])
          refine planT_fork ?_
          refine planT_alloc rfl rfl (fun w => Try.zeroValue49 w) rfl (fun g3 w3 y3 hg3 hs3 hb3 => ?_) ?_
          · have E3 : Ext w0 w3 := Mod.trans E2 y3
            have HG3 := Lib.hid (And.intro hg3 (And.intro hs3 (And.intro hb3 (And.intro E3 (And.intro y3 E2)))))
            clear hg3 hs3 hb3
            refine ⟨fun _ => by obtain ⟨a0, a1, a2, a3, a4, a5, a6, a7, a8, a9⟩ := (KE.out _ E3).1.cells; obtain ⟨b0, b1, b2, b3, b4, b5, b6, b7, b8, b9⟩ := (KE.out _ E3).2.1.cells; exact ⟨a0, a1, a2, a3, a4, a5, a6, a7, a8, a9, b0, b1, b2, b3, b4, b5, b6, b7, b8, b9⟩, ?_⟩
            (try simp only [Act.put, List.setIfInBounds_toArray, List.set_cons_zero, List.set_cons_succ])
            refine planT_fork ?_
            refine planT_alloc rfl rfl (fun w => Try.zeroValue49 w) rfl (fun g4 w4 y4 hg4 hs4 hb4 => ?_) planT_end
            have E4 : Ext w0 w4 := Mod.trans E3 y4
            have HG4 := Lib.hid (And.intro hg4 (And.intro hs4 (And.intro hb4 (And.intro E4 (And.intro y4 E3)))))
            clear hg4 hs4 hb4
            refine ⟨fun _ => by obtain ⟨a0, a1, a2, a3, a4, a5, a6, a7, a8, a9⟩ := (KE.out _ E4).1.cells; obtain ⟨b0, b1, b2, b3, b4, b5, b6, b7, b8, b9⟩ := (KE.out _ E4).2.1.cells; exact ⟨a0, a1, a2, a3, a4, a5, a6, a7, a8, a9, b0, b1, b2, b3, b4, b5, b6, b7, b8, b9⟩, ?_⟩
            (try simp only [Act.put, List.setIfInBounds_toArray, List.set_cons_zero, List.set_cons_succ])
            refine planT_fork ?_
            refine planT_store rfl rfl rfl rfl ((Ext.blk y4 HG3.out.2.2.1)) (by kernel_rfl) rfl (evArr_all (Sl.one (KE.out _ (Mod.refl _ _)).2.2.1.rd) (Sl.one (KE.out _ (Mod.refl _ _)).2.2.1.wr) (Sl.one (KE.out _ (Mod.refl _ _)).2.2.1.fr.sl)) (fun w5 m5 hs5 hb5 => ?_) planT_end
            have E5 : Ext w0 w5 := Mod.trans' E4 m5 (fun q hq => .inr (by obtain ⟨z3a, z3b, -, z3e, z3y, z3p⟩ := HG3.out; have z3f := z3e.size; have z3g := z3y.size; have z3q := z3p.size; obtain ⟨z4a, z4b, -, z4e, z4y, z4p⟩ := HG4.out; have z4f := z4e.size; have z4g := z4y.size; have z4q := z4p.size; have sy1 := y1.size; have sy2 := y2.size; have sy3 := y3.size; have sy4 := y4.size; subst hq; omega))
            have HG5 := Lib.hid (And.intro hs5 (And.intro hb5 m5))
            clear hs5 hb5
            refine ⟨fun h => (by cases h), ?_⟩
            (try simp only [Act.put])
            refine planT_fork ?_
            refine planT_store rfl rfl rfl rfl ((Mod.blk m5 HG4.out.2.2.1 (by obtain ⟨z3a, z3b, -, z3e, z3y, z3p⟩ := HG3.out; have z3f := z3e.size; have z3g := z3y.size; have z3q := z3p.size; obtain ⟨z4a, z4b, -, z4e, z4y, z4p⟩ := HG4.out; have z4f := z4e.size; have z4g := z4y.size; have z4q := z4p.size; have sy1 := y1.size; have sy2 := y2.size; have sy3 := y3.size; have sy4 := y4.size; omega))) (by kernel_rfl) rfl (evArr_all (Sl.one (KE.out _ (Mod.refl _ _)).2.2.2.rd) (Sl.one (KE.out _ (Mod.refl _ _)).2.2.2.wr) (Sl.one (KE.out _ (Mod.refl _ _)).2.2.2.fr.sl)) (fun w6 m6 hs6 hb6 => ?_) planT_end
            have E6 : Ext w0 w6 := Mod.trans' E5 m6 (fun q hq => .inr (by obtain ⟨z3a, z3b, -, z3e, z3y, z3p⟩ := HG3.out; have z3f := z3e.size; have z3g := z3y.size; have z3q := z3p.size; obtain ⟨z4a, z4b, -, z4e, z4y, z4p⟩ := HG4.out; have z4f := z4e.size; have z4g := z4y.size; have z4q := z4p.size; have sy1 := y1.size; have sy2 := y2.size; have sy3 := y3.size; have sy4 := y4.size; subst hq; omega))
            have HG6 := Lib.hid (And.intro hs6 (And.intro hb6 m6))
            clear hs6 hb6
            refine ⟨fun h => (by cases h), ?_⟩
            (try simp only [Act.put])
            refine planT_nil ?_
            go_wp2_with fail
            go_meet
            exact ⟨g3, g4, rfl, rfl, ⟨(Mod.blk m6 HG5.out.2.1 (by obtain ⟨z3a, z3b, -, z3e, z3y, z3p⟩ := HG3.out; have z3f := z3e.size; have z3g := z3y.size; have z3q := z3p.size; obtain ⟨z4a, z4b, -, z4e, z4y, z4p⟩ := HG4.out; have z4f := z4e.size; have z4g := z4y.size; have z4q := z4p.size; have sy1 := y1.size; have sy2 := y2.size; have sy3 := y3.size; have sy4 := y4.size; omega))⟩, ⟨HG6.out.2.1⟩, E6⟩
          refine planT_alloc rfl rfl (fun w => Try.zeroValue49 w) rfl (fun g7 w7 y7 hg7 hs7 hb7 => ?_) planT_end
          have E7 : Ext w0 w7 := Mod.trans E2 y7
          have HG7 := Lib.hid (And.intro hg7 (And.intro hs7 (And.intro hb7 (And.intro E7 (And.intro y7 E2)))))
          clear hg7 hs7 hb7
          refine ⟨fun _ => by obtain ⟨a0, a1, a2, a3, a4, a5, a6, a7, a8, a9⟩ := (KE.out _ E7).1.cells; obtain ⟨b0, b1, b2, b3, b4, b5, b6, b7, b8, b9⟩ := (KE.out _ E7).2.1.cells; exact ⟨a0, a1, a2, a3, a4, a5, a6, a7, a8, a9, b0, b1, b2, b3, b4, b5, b6, b7, b8, b9⟩, ?_⟩
          (try simp only [Act.put, List.setIfInBounds_toArray, List.set_cons_zero, List.set_cons_succ])
          refine planT_fork ?_
          refine planT_alloc rfl rfl (fun w => Try.zeroValue49 w) rfl (fun g8 w8 y8 hg8 hs8 hb8 => ?_) planT_end
          have E8 : Ext w0 w8 := Mod.trans E7 y8
          have HG8 := Lib.hid (And.intro hg8 (And.intro hs8 (And.intro hb8 (And.intro E8 (And.intro y8 E7)))))
          clear hg8 hs8 hb8
          refine ⟨fun _ => by obtain ⟨a0, a1, a2, a3, a4, a5, a6, a7, a8, a9⟩ := (KE.out _ E8).1.cells; obtain ⟨b0, b1, b2, b3, b4, b5, b6, b7, b8, b9⟩ := (KE.out _ E8).2.1.cells; exact ⟨a0, a1, a2, a3, a4, a5, a6, a7, a8, a9, b0, b1, b2, b3, b4, b5, b6, b7, b8, b9⟩, ?_⟩
          (try simp only [Act.put, List.setIfInBounds_toArray, List.set_cons_zero, List.set_cons_succ])
          refine planT_fork ?_
          refine planT_store rfl rfl rfl rfl (HG8.out.2.2.1) (by kernel_rfl) rfl (evArr_all (Sl.one (KE.out _ (Mod.refl _ _)).2.2.1.rd) (Sl.one (KE.out _ (Mod.refl _ _)).2.2.1.wr) (Sl.one (KE.out _ (Mod.refl _ _)).2.2.1.fr.sl)) (fun w9 m9 hs9 hb9 => ?_) planT_end
          have E9 : Ext w0 w9 := Mod.trans' E8 m9 (fun q hq => .inr (by obtain ⟨z7a, z7b, -, z7e, z7y, z7p⟩ := HG7.out; have z7f := z7e.size; have z7g := z7y.size; have z7q := z7p.size; obtain ⟨z8a, z8b, -, z8e, z8y, z8p⟩ := HG8.out; have z8f := z8e.size; have z8g := z8y.size; have z8q := z8p.size; have sy1 := y1.size; have sy2 := y2.size; have sy7 := y7.size; have sy8 := y8.size; subst hq; omega))
          have HG9 := Lib.hid (And.intro hs9 (And.intro hb9 m9))
          clear hs9 hb9
          refine ⟨fun h => (by cases h), ?_⟩
          (try simp only [Act.put])
          refine planT_fork ?_
          refine planT_store rfl rfl rfl rfl ((Mod.blk m9 (Ext.blk y8 HG7.out.2.2.1) (by obtain ⟨z7a, z7b, -, z7e, z7y, z7p⟩ := HG7.out; have z7f := z7e.size; have z7g := z7y.size; have z7q := z7p.size; obtain ⟨z8a, z8b, -, z8e, z8y, z8p⟩ := HG8.out; have z8f := z8e.size; have z8g := z8y.size; have z8q := z8p.size; have sy1 := y1.size; have sy2 := y2.size; have sy7 := y7.size; have sy8 := y8.size; omega))) (by kernel_rfl) rfl (evArr_all (Sl.one (KE.out _ (Mod.refl _ _)).2.2.2.rd) (Sl.one (KE.out _ (Mod.refl _ _)).2.2.2.wr) (Sl.one (KE.out _ (Mod.refl _ _)).2.2.2.fr.sl)) (fun w10 m10 hs10 hb10 => ?_) planT_end
          have E10 : Ext w0 w10 := Mod.trans' E9 m10 (fun q hq => .inr (by obtain ⟨z7a, z7b, -, z7e, z7y, z7p⟩ := HG7.out; have z7f := z7e.size; have z7g := z7y.size; have z7q := z7p.size; obtain ⟨z8a, z8b, -, z8e, z8y, z8p⟩ := HG8.out; have z8f := z8e.size; have z8g := z8y.size; have z8q := z8p.size; have sy1 := y1.size; have sy2 := y2.size; have sy7 := y7.size; have sy8 := y8.size; subst hq; omega))
          have HG10 := Lib.hid (And.intro hs10 (And.intro hb10 m10))
          clear hs10 hb10
          refine ⟨fun h => (by cases h), ?_⟩
          (try simp only [Act.put])
          refine planT_nil ?_
          go_wp2_with fail
          go_meet
          exact ⟨g8, g7, rfl, rfl, ⟨(Mod.blk m10 HG9.out.2.1 (by obtain ⟨z7a, z7b, -, z7e, z7y, z7p⟩ := HG7.out; have z7f := z7e.size; have z7g := z7y.size; have z7q := z7p.size; obtain ⟨z8a, z8b, -, z8e, z8y, z8p⟩ := HG8.out; have z8f := z8e.size; have z8g := z8y.size; have z8q := z8p.size; have sy1 := y1.size; have sy2 := y2.size; have sy7 := y7.size; have sy8 := y8.size; omega))⟩, ⟨HG10.out.2.1⟩, E10⟩
        refine planT_alloc rfl rfl (fun w => Try.zeroValue49 w) rfl (fun g11 w11 y11 hg11 hs11 hb11 => ?_) ?_
        · have E11 : Ext w0 w11 := Mod.trans E1 y11
          have HG11 := Lib.hid (And.intro hg11 (And.intro hs11 (And.intro hb11 (And.intro E11 (And.intro y11 E1)))))
          clear hg11 hs11 hb11
          refine ⟨fun _ => by obtain ⟨a0, a1, a2, a3, a4, a5, a6, a7, a8, a9⟩ := (KE.out _ E11).1.cells; obtain ⟨b0, b1, b2, b3, b4, b5, b6, b7, b8, b9⟩ := (KE.out _ E11).2.1.cells; exact ⟨a0, a1, a2, a3, a4, a5, a6, a7, a8, a9, b0, b1, b2, b3, b4, b5, b6, b7, b8, b9⟩, ?_⟩
          (try simp only [Act.put, List.setIfInBounds_toArray, List.set_cons_zero, List.set_cons_succ])
          refine planT_fork ?_
          refine planT_alt (fun K hK => ?_) ?_
          · go_simp
            go_at_call 32
            refine (event_any _ b u (KE.out _ E11).2.2.2).mono ?_
            rintro r w12 ⟨rfl, y12⟩
            have E12 : Ext w0 w12 := Mod.trans E11 y12
            refine hK.out _ _ (by obtain ⟨a0, a1, a2, a3, a4, a5, a6, a7, a8, a9⟩ := (KE.out _ E12).1.cells; obtain ⟨b0, b1, b2, b3, b4, b5, b6, b7, b8, b9⟩ := (KE.out _ E12).2.1.cells; exact ⟨a0, a1, a2, a3, a4, a5, a6, a7, a8, a9, b0, b1, b2, b3, b4, b5, b6, b7, b8, b9⟩) ?_
            clear hK K
            (try simp only [Act.put, List.setIfInBounds_toArray, List.set_cons_zero, List.set_cons_succ])
            refine planT_fork ?_
            refine planT_alloc rfl rfl (fun w => Try.zeroValue49 w) rfl (fun g13 w13 y13 hg13 hs13 hb13 => ?_) planT_end
            have E13 : Ext w0 w13 := Mod.trans E12 y13
            have HG13 := Lib.hid (And.intro hg13 (And.intro hs13 (And.intro hb13 (And.intro E13 (And.intro y13 E12)))))
            clear hg13 hs13 hb13
            refine ⟨fun _ => by obtain ⟨a0, a1, a2, a3, a4, a5, a6, a7, a8, a9⟩ := (KE.out _ E13).1.cells; obtain ⟨b0, b1, b2, b3, b4, b5, b6, b7, b8, b9⟩ := (KE.out _ E13).2.1.cells; exact ⟨a0, a1, a2, a3, a4, a5, a6, a7, a8, a9, b0, b1, b2, b3, b4, b5, b6, b7, b8, b9⟩, ?_⟩
            (try simp only [Act.put, List.setIfInBounds_toArray, List.set_cons_zero, List.set_cons_succ])
            refine planT_fork ?_
            refine planT_store rfl rfl rfl rfl ((Ext.blk y13 (Ext.blk y12 HG11.out.2.2.1))) (by kernel_rfl) rfl (evArr_all (Sl.one (KE.out _ (Mod.refl _ _)).2.2.1.rd) (Sl.one (KE.out _ (Mod.refl _ _)).2.2.1.wr) (Sl.one (KE.out _ (Mod.refl _ _)).2.2.1.fr.sl)) (fun w14 m14 hs14 hb14 => ?_) planT_end
            have E14 : Ext w0 w14 := Mod.trans' E13 m14 (fun q hq => .inr (by obtain ⟨z11a, z11b, -, z11e, z11y, z11p⟩ := HG11.out; have z11f := z11e.size; have z11g := z11y.size; have z11q := z11p.size; obtain ⟨z13a, z13b, -, z13e, z13y, z13p⟩ := HG13.out; have z13f := z13e.size; have z13g := z13y.size; have z13q := z13p.size; have sy1 := y1.size; have sy11 := y11.size; have sy12 := y12.size; have sy13 := y13.size; subst hq; omega))
            have HG14 := Lib.hid (And.intro hs14 (And.intro hb14 m14))
            clear hs14 hb14
            refine ⟨fun h => (by cases h), ?_⟩
            (try simp only [Act.put])
            refine planT_fork ?_
            refine planT_store rfl rfl rfl rfl ((Mod.blk m14 HG13.out.2.2.1 (by obtain ⟨z11a, z11b, -, z11e, z11y, z11p⟩ := HG11.out; have z11f := z11e.size; have z11g := z11y.size; have z11q := z11p.size; obtain ⟨z13a, z13b, -, z13e, z13y, z13p⟩ := HG13.out; have z13f := z13e.size; have z13g := z13y.size; have z13q := z13p.size; have sy1 := y1.size; have sy11 := y11.size; have sy12 := y12.size; have sy13 := y13.size; omega))) (by kernel_rfl) rfl (evArr_all (Sl.one (KE.out _ (Mod.refl _ _)).2.2.2.rd) (Sl.one (KE.out _ (Mod.refl _ _)).2.2.2.wr) (Sl.one (KE.out _ (Mod.refl _ _)).2.2.2.fr.sl)) (fun w15 m15 hs15 hb15 => ?_) planT_end
            have E15 : Ext w0 w15 := Mod.trans' E14 m15 (fun q hq => .inr (by obtain ⟨z11a, z11b, -, z11e, z11y, z11p⟩ := HG11.out; have z11f := z11e.size; have z11g := z11y.size; have z11q := z11p.size; obtain ⟨z13a, z13b, -, z13e, z13y, z13p⟩ := HG13.out; have z13f := z13e.size; have z13g := z13y.size; have z13q := z13p.size; have sy1 := y1.size; have sy11 := y11.size; have sy12 := y12.size; have sy13 := y13.size; subst hq; omega))
            have HG15 := Lib.hid (And.intro hs15 (And.intro hb15 m15))
            clear hs15 hb15
            refine ⟨fun h => (by cases h), ?_⟩
            (try simp only [Act.put])
            refine planT_nil ?_
            go_wp2_with fail
            go_meet
            exact ⟨g11, g13, rfl, rfl, ⟨(Mod.blk m15 HG14.out.2.1 (by obtain ⟨z11a, z11b, -, z11e, z11y, z11p⟩ := HG11.out; have z11f := z11e.size; have z11g := z11y.size; have z11q := z11p.size; obtain ⟨z13a, z13b, -, z13e, z13y, z13p⟩ := HG13.out; have z13f := z13e.size; have z13g := z13y.size; have z13q := z13p.size; have sy1 := y1.size; have sy11 := y11.size; have sy12 := y12.size; have sy13 := y13.size; omega))⟩, ⟨HG15.out.2.1⟩, E15⟩
          refine planT_alloc rfl rfl (fun w => Try.zeroValue49 w) rfl (fun g16 w16 y16 hg16 hs16 hb16 => ?_) planT_end
          have E16 : Ext w0 w16 := Mod.trans E11 y16
          have HG16 := Lib.hid (And.intro hg16 (And.intro hs16 (And.intro hb16 (And.intro E16 (And.intro y16 E11)))))
          clear hg16 hs16 hb16
          refine ⟨fun _ => by obtain ⟨a0, a1, a2, a3, a4, a5, a6, a7, a8, a9⟩ := (KE.out _ E16).1.cells; obtain ⟨b0, b1, b2, b3, b4, b5, b6, b7, b8, b9⟩ := (KE.out _ E16).2.1.cells; exact ⟨a0, a1, a2, a3, a4, a5, a6, a7, a8, a9, b0, b1, b2, b3, b4, b5, b6, b7, b8, b9⟩, ?_⟩
          (try simp only [Act.put, List.setIfInBounds_toArray, List.set_cons_zero, List.set_cons_succ])
          refine planT_fork ?_
          refine planT_alt (fun K hK => ?_) planT_end
          go_simp
          go_at_call 32
          refine (event_any _ b u (KE.out _ E16).2.2.2).mono ?_
          rintro r w17 ⟨rfl, y17⟩
          have E17 : Ext w0 w17 := Mod.trans E16 y17
          refine hK.out _ _ (by obtain ⟨a0, a1, a2, a3, a4, a5, a6, a7, a8, a9⟩ := (KE.out _ E17).1.cells; obtain ⟨b0, b1, b2, b3, b4, b5, b6, b7, b8, b9⟩ := (KE.out _ E17).2.1.cells; exact ⟨a0, a1, a2, a3, a4, a5, a6, a7, a8, a9, b0, b1, b2, b3, b4, b5, b6, b7, b8, b9⟩) ?_
          clear hK K
          (try simp only [Act.put, List.setIfInBounds_toArray, List.set_cons_zero, List.set_cons_succ])
          refine planT_fork ?_
          refine planT_store rfl rfl rfl rfl ((Ext.blk y17 (Ext.blk y16 HG11.out.2.2.1))) (by kernel_rfl) rfl (evArr_all (Sl.one (KE.out _ (Mod.refl _ _)).2.2.1.rd) (Sl.one (KE.out _ (Mod.refl _ _)).2.2.1.wr) (Sl.one (KE.out _ (Mod.refl _ _)).2.2.1.fr.sl)) (fun w18 m18 hs18 hb18 => ?_) planT_end
          have E18 : Ext w0 w18 := Mod.trans' E17 m18 (fun q hq => .inr (by obtain ⟨z11a, z11b, -, z11e, z11y, z11p⟩ := HG11.out; have z11f := z11e.size; have z11g := z11y.size; have z11q := z11p.size; obtain ⟨z16a, z16b, -, z16e, z16y, z16p⟩ := HG16.out; have z16f := z16e.size; have z16g := z16y.size; have z16q := z16p.size; have sy1 := y1.size; have sy11 := y11.size; have sy16 := y16.size; have sy17 := y17.size; subst hq; omega))
          have HG18 := Lib.hid (And.intro hs18 (And.intro hb18 m18))
          clear hs18 hb18
          refine ⟨fun h => (by cases h), ?_⟩
          (try simp only [Act.put])
          refine planT_fork ?_
          refine planT_store rfl rfl rfl rfl ((Mod.blk m18 (Ext.blk y17 HG16.out.2.2.1) (by obtain ⟨z11a, z11b, -, z11e, z11y, z11p⟩ := HG11.out; have z11f := z11e.size; have z11g := z11y.size; have z11q := z11p.size; obtain ⟨z16a, z16b, -, z16e, z16y, z16p⟩ := HG16.out; have z16f := z16e.size; have z16g := z16y.size; have z16q := z16p.size; have sy1 := y1.size; have sy11 := y11.size; have sy16 := y16.size; have sy17 := y17.size; omega))) (by kernel_rfl) rfl (evArr_all (Sl.one (KE.out _ (Mod.refl _ _)).2.2.2.rd) (Sl.one (KE.out _ (Mod.refl _ _)).2.2.2.wr) (Sl.one (KE.out _ (Mod.refl _ _)).2.2.2.fr.sl)) (fun w19 m19 hs19 hb19 => ?_) planT_end
          have E19 : Ext w0 w19 := Mod.trans' E18 m19 (fun q hq => .inr (by obtain ⟨z11a, z11b, -, z11e, z11y, z11p⟩ := HG11.out; have z11f := z11e.size; have z11g := z11y.size; have z11q := z11p.size; obtain ⟨z16a, z16b, -, z16e, z16y, z16p⟩ := HG16.out; have z16f := z16e.size; have z16g := z16y.size; have z16q := z16p.size; have sy1 := y1.size; have sy11 := y11.size; have sy16 := y16.size; have sy17 := y17.size; subst hq; omega))
          have HG19 := Lib.hid (And.intro hs19 (And.intro hb19 m19))
          clear hs19 hb19
          refine ⟨fun h => (by cases h), ?_⟩
          (try simp only [Act.put])
          refine planT_nil ?_
          go_wp2_with fail
          go_meet
          exact ⟨g11, g16, rfl, rfl, ⟨(Mod.blk m19 HG18.out.2.1 (by obtain ⟨z11a, z11b, -, z11e, z11y, z11p⟩ := HG11.out; have z11f := z11e.size; have z11g := z11y.size; have z11q := z11p.size; obtain ⟨z16a, z16b, -, z16e, z16y, z16p⟩ := HG16.out; have z16f := z16e.size; have z16g := z16y.size; have z16q := z16p.size; have sy1 := y1.size; have sy11 := y11.size; have sy16 := y16.size; have sy17 := y17.size; omega))⟩, ⟨HG19.out.2.1⟩, E19⟩
        refine planT_alloc rfl rfl (fun w => Try.zeroValue49 w) rfl (fun g20 w20 y20 hg20 hs20 hb20 => ?_) planT_end
        have E20 : Ext w0 w20 := Mod.trans E1 y20
        have HG20 := Lib.hid (And.intro hg20 (And.intro hs20 (And.intro hb20 (And.intro E20 (And.intro y20 E1)))))
        clear hg20 hs20 hb20
        refine ⟨fun _ => by obtain ⟨a0, a1, a2, a3, a4, a5, a6, a7, a8, a9⟩ := (KE.out _ E20).1.cells; obtain ⟨b0, b1, b2, b3, b4, b5, b6, b7, b8, b9⟩ := (KE.out _ E20).2.1.cells; exact ⟨a0, a1, a2, a3, a4, a5, a6, a7, a8, a9, b0, b1, b2, b3, b4, b5, b6, b7, b8, b9⟩, ?_⟩
        (try simp only [Act.put, List.setIfInBounds_toArray, List.set_cons_zero, List.set_cons_succ])
        refine planT_fork ?_
        refine planT_alt (fun K hK => ?_) ?_
        · go_simp
          go_at_call 32
          refine (event_any _ b u (KE.out _ E20).2.2.2).mono ?_
          rintro r w21 ⟨rfl, y21⟩
          have E21 : Ext w0 w21 := Mod.trans E20 y21
          refine hK.out _ _ (by obtain ⟨a0, a1, a2, a3, a4, a5, a6, a7, a8, a9⟩ := (KE.out _ E21).1.cells; obtain ⟨b0, b1, b2, b3, b4, b5, b6, b7, b8, b9⟩ := (KE.out _ E21).2.1.cells; exact ⟨a0, a1, a2, a3, a4, a5, a6, a7, a8, a9, b0, b1, b2, b3, b4, b5, b6, b7, b8, b9⟩) ?_
          clear hK K
          (try simp only [Act.put, List.setIfInBounds_toArray, List.set_cons_zero, List.set_cons_succ])
          refine planT_fork ?_
          refine planT_alloc rfl rfl (fun w => Try.zeroValue49 w) rfl (fun g22 w22 y22 hg22 hs22 hb22 => ?_) planT_end
          have E22 : Ext w0 w22 := Mod.trans E21 y22
          have HG22 := Lib.hid (And.intro hg22 (And.intro hs22 (And.intro hb22 (And.intro E22 (And.intro y22 E21)))))
          clear hg22 hs22 hb22
          refine ⟨fun _ => by obtain ⟨a0, a1, a2, a3, a4, a5, a6, a7, a8, a9⟩ := (KE.out _ E22).1.cells; obtain ⟨b0, b1, b2, b3, b4, b5, b6, b7, b8, b9⟩ := (KE.out _ E22).2.1.cells; exact ⟨a0, a1, a2, a3, a4, a5, a6, a7, a8, a9, b0, b1, b2, b3, b4, b5, b6, b7, b8, b9⟩, ?_⟩
          (try simp only [Act.put, List.setIfInBounds_toArray, List.set_cons_zero, List.set_cons_succ])
          refine planT_fork ?_
          refine planT_store rfl rfl rfl rfl (HG22.out.2.2.1) (by kernel_rfl) rfl (evArr_all (Sl.one (KE.out _ (Mod.refl _ _)).2.2.1.rd) (Sl.one (KE.out _ (Mod.refl _ _)).2.2.1.wr) (Sl.one (KE.out _ (Mod.refl _ _)).2.2.1.fr.sl)) (fun w23 m23 hs23 hb23 => ?_) planT_end
          have E23 : Ext w0 w23 := Mod.trans' E22 m23 (fun q hq => .inr (by obtain ⟨z20a, z20b, -, z20e, z20y, z20p⟩ := HG20.out; have z20f := z20e.size; have z20g := z20y.size; have z20q := z20p.size; obtain ⟨z22a, z22b, -, z22e, z22y, z22p⟩ := HG22.out; have z22f := z22e.size; have z22g := z22y.size; have z22q := z22p.size; have sy1 := y1.size; have sy20 := y20.size; have sy21 := y21.size; have sy22 := y22.size; subst hq; omega))
          have HG23 := Lib.hid (And.intro hs23 (And.intro hb23 m23))
          clear hs23 hb23
          refine ⟨fun h => (by cases h), ?_⟩
          (try simp only [Act.put])
          refine planT_fork ?_
          refine planT_store rfl rfl rfl rfl ((Mod.blk m23 (Ext.blk y22 (Ext.blk y21 HG20.out.2.2.1)) (by obtain ⟨z20a, z20b, -, z20e, z20y, z20p⟩ := HG20.out; have z20f := z20e.size; have z20g := z20y.size; have z20q := z20p.size; obtain ⟨z22a, z22b, -, z22e, z22y, z22p⟩ := HG22.out; have z22f := z22e.size; have z22g := z22y.size; have z22q := z22p.size; have sy1 := y1.size; have sy20 := y20.size; have sy21 := y21.size; have sy22 := y22.size; omega))) (by kernel_rfl) rfl (evArr_all (Sl.one (KE.out _ (Mod.refl _ _)).2.2.2.rd) (Sl.one (KE.out _ (Mod.refl _ _)).2.2.2.wr) (Sl.one (KE.out _ (Mod.refl _ _)).2.2.2.fr.sl)) (fun w24 m24 hs24 hb24 => ?_) planT_end
          have E24 : Ext w0 w24 := Mod.trans' E23 m24 (fun q hq => .inr (by obtain ⟨z20a, z20b, -, z20e, z20y, z20p⟩ := HG20.out; have z20f := z20e.size; have z20g := z20y.size; have z20q := z20p.size; obtain ⟨z22a, z22b, -, z22e, z22y, z22p⟩ := HG22.out; have z22f := z22e.size; have z22g := z22y.size; have z22q := z22p.size; have sy1 := y1.size; have sy20 := y20.size; have sy21 := y21.size; have sy22 := y22.size; subst hq; omega))
          have HG24 := Lib.hid (And.intro hs24 (And.intro hb24 m24))
          clear hs24 hb24
          refine ⟨fun h => (by cases h), ?_⟩
          (try simp only [Act.put])
          refine planT_nil ?_
          go_wp2_with fail
          go_meet
          exact ⟨g22, g20, rfl, rfl, ⟨(Mod.blk m24 HG23.out.2.1 (by obtain ⟨z20a, z20b, -, z20e, z20y, z20p⟩ := HG20.out; have z20f := z20e.size; have z20g := z20y.size; have z20q := z20p.size; obtain ⟨z22a, z22b, -, z22e, z22y, z22p⟩ := HG22.out; have z22f := z22e.size; have z22g := z22y.size; have z22q := z22p.size; have sy1 := y1.size; have sy20 := y20.size; have sy21 := y21.size; have sy22 := y22.size; omega))⟩, ⟨HG24.out.2.1⟩, E24⟩
        refine planT_alloc rfl rfl (fun w => Try.zeroValue49 w) rfl (fun g25 w25 y25 hg25 hs25 hb25 => ?_) planT_end
        have E25 : Ext w0 w25 := Mod.trans E20 y25
        have HG25 := Lib.hid (And.intro hg25 (And.intro hs25 (And.intro hb25 (And.intro E25 (And.intro y25 E20)))))
        clear hg25 hs25 hb25
        refine ⟨fun _ => by obtain ⟨a0, a1, a2, a3, a4, a5, a6, a7, a8, a9⟩ := (KE.out _ E25).1.cells; obtain ⟨b0, b1, b2, b3, b4, b5, b6, b7, b8, b9⟩ := (KE.out _ E25).2.1.cells; exact ⟨a0, a1, a2, a3, a4, a5, a6, a7, a8, a9, b0, b1, b2, b3, b4, b5, b6, b7, b8, b9⟩, ?_⟩
        (try simp only [Act.put, List.setIfInBounds_toArray, List.set_cons_zero, List.set_cons_succ])
        refine planT_fork ?_
        refine planT_alt (fun K hK => ?_) planT_end
        go_simp
        go_at_call 32
        refine (event_any _ b u (KE.out _ E25).2.2.2).mono ?_
        rintro r w26 ⟨rfl, y26⟩
        have E26 : Ext w0 w26 := Mod.trans E25 y26
        refine hK.out _ _ (by obtain ⟨a0, a1, a2, a3, a4, a5, a6, a7, a8, a9⟩ := (KE.out _ E26).1.cells; obtain ⟨b0, b1, b2, b3, b4, b5, b6, b7, b8, b9⟩ := (KE.out _ E26).2.1.cells; exact ⟨a0, a1, a2, a3, a4, a5, a6, a7, a8, a9, b0, b1, b2, b3, b4, b5, b6, b7, b8, b9⟩) ?_
        clear hK K
        (try simp only [Act.put, List.setIfInBounds_toArray, List.set_cons_zero, List.set_cons_succ])
        refine planT_fork ?_
        refine planT_store rfl rfl rfl rfl ((Ext.blk y26 HG25.out.2.2.1)) (by kernel_rfl) rfl (evArr_all (Sl.one (KE.out _ (Mod.refl _ _)).2.2.1.rd) (Sl.one (KE.out _ (Mod.refl _ _)).2.2.1.wr) (Sl.one (KE.out _ (Mod.refl _ _)).2.2.1.fr.sl)) (fun w27 m27 hs27 hb27 => ?_) planT_end
        have E27 : Ext w0 w27 := Mod.trans' E26 m27 (fun q hq => .inr (by obtain ⟨z20a, z20b, -, z20e, z20y, z20p⟩ := HG20.out; have z20f := z20e.size; have z20g := z20y.size; have z20q := z20p.size; obtain ⟨z25a, z25b, -, z25e, z25y, z25p⟩ := HG25.out; have z25f := z25e.size; have z25g := z25y.size; have z25q := z25p.size; have sy1 := y1.size; have sy20 := y20.size; have sy25 := y25.size; have sy26 := y26.size; subst hq; omega))
        have HG27 := Lib.hid (And.intro hs27 (And.intro hb27 m27))
        clear hs27 hb27
        refine ⟨fun h => (by cases h), ?_⟩
        (try simp only [Act.put])
        refine planT_fork ?_
        refine planT_store rfl rfl rfl rfl ((Mod.blk m27 (Ext.blk y26 (Ext.blk y25 HG20.out.2.2.1)) (by obtain ⟨z20a, z20b, -, z20e, z20y, z20p⟩ := HG20.out; have z20f := z20e.size; have z20g := z20y.size; have z20q := z20p.size; obtain ⟨z25a, z25b, -, z25e, z25y, z25p⟩ := HG25.out; have z25f := z25e.size; have z25g := z25y.size; have z25q := z25p.size; have sy1 := y1.size; have sy20 := y20.size; have sy25 := y25.size; have sy26 := y26.size; omega))) (by kernel_rfl) rfl (evArr_all (Sl.one (KE.out _ (Mod.refl _ _)).2.2.2.rd) (Sl.one (KE.out _ (Mod.refl _ _)).2.2.2.wr) (Sl.one (KE.out _ (Mod.refl _ _)).2.2.2.fr.sl)) (fun w28 m28 hs28 hb28 => ?_) planT_end
        have E28 : Ext w0 w28 := Mod.trans' E27 m28 (fun q hq => .inr (by obtain ⟨z20a, z20b, -, z20e, z20y, z20p⟩ := HG20.out; have z20f := z20e.size; have z20g := z20y.size; have z20q := z20p.size; obtain ⟨z25a, z25b, -, z25e, z25y, z25p⟩ := HG25.out; have z25f := z25e.size; have z25g := z25y.size; have z25q := z25p.size; have sy1 := y1.size; have sy20 := y20.size; have sy25 := y25.size; have sy26 := y26.size; subst hq; omega))
        have HG28 := Lib.hid (And.intro hs28 (And.intro hb28 m28))
        clear hs28 hb28
        refine ⟨fun h => (by cases h), ?_⟩
        (try simp only [Act.put])
        refine planT_nil ?_
        go_wp2_with fail
        go_meet
        exact ⟨g25, g20, rfl, rfl, ⟨(Mod.blk m28 HG27.out.2.1 (by obtain ⟨z20a, z20b, -, z20e, z20y, z20p⟩ := HG20.out; have z20f := z20e.size; have z20g := z20y.size; have z20q := z20p.size; obtain ⟨z25a, z25b, -, z25e, z25y, z25p⟩ := HG25.out; have z25f := z25e.size; have z25g := z25y.size; have z25q := z25p.size; have sy1 := y1.size; have sy20 := y20.size; have sy25 := y25.size; have sy26 := y26.size; omega))⟩, ⟨HG28.out.2.1⟩, E28⟩
      refine planT_alloc rfl rfl (fun w => Try.zeroValue49 w) rfl (fun g29 w29 y29 hg29 hs29 hb29 => ?_) ?_
      · have E29 : Ext w0 w29 := Mod.trans (Mod.drew X2) y29
        have HG29 := Lib.hid (And.intro hg29 (And.intro hs29 (And.intro hb29 (And.intro E29 (And.intro y29 (Mod.drew X2))))))
        clear hg29 hs29 hb29
        refine ⟨fun _ => by obtain ⟨a0, a1, a2, a3, a4, a5, a6, a7, a8, a9⟩ := (KE.out _ E29).1.cells; obtain ⟨b0, b1, b2, b3, b4, b5, b6, b7, b8, b9⟩ := (KE.out _ E29).2.1.cells; exact ⟨a0, a1, a2, a3, a4, a5, a6, a7, a8, a9, b0, b1, b2, b3, b4, b5, b6, b7, b8, b9⟩, ?_⟩
        (try simp only [Act.put, List.setIfInBounds_toArray, List.set_cons_zero, List.set_cons_succ])
        refine planT_fork ?_
        refine planT_alt (fun K hK => ?_) ?_
        · go_simp
          go_at_call 32
          refine (event_any _ a v (KE.out _ E29).2.2.1).mono ?_
          rintro r w30 ⟨rfl, y30⟩
          have E30 : Ext w0 w30 := Mod.trans E29 y30
          refine hK.out _ _ (by obtain ⟨a0, a1, a2, a3, a4, a5, a6, a7, a8, a9⟩ := (KE.out _ E30).1.cells; obtain ⟨b0, b1, b2, b3, b4, b5, b6, b7, b8, b9⟩ := (KE.out _ E30).2.1.cells; exact ⟨a0, a1, a2, a3, a4, a5, a6, a7, a8, a9, b0, b1, b2, b3, b4, b5, b6, b7, b8, b9⟩) ?_
          clear hK K
          (try simp only [Act.put, List.setIfInBounds_toArray, List.set_cons_zero, List.set_cons_succ])
          refine planT_fork ?_
          refine planT_alt (fun K hK => ?_) ?_
          · go_simp
            go_at_call 32
            refine (event_any _ b u (KE.out _ E30).2.2.2).mono ?_
            rintro r w31 ⟨rfl, y31⟩
            have E31 : Ext w0 w31 := Mod.trans E30 y31
            refine hK.out _ _ (by obtain ⟨a0, a1, a2, a3, a4, a5, a6, a7, a8, a9⟩ := (KE.out _ E31).1.cells; obtain ⟨b0, b1, b2, b3, b4, b5, b6, b7, b8, b9⟩ := (KE.out _ E31).2.1.cells; exact ⟨a0, a1, a2, a3, a4, a5, a6, a7, a8, a9, b0, b1, b2, b3, b4, b5, b6, b7, b8, b9⟩) ?_
            clear hK K
            (try simp only [Act.put, List.setIfInBounds_toArray, List.set_cons_zero, List.set_cons_succ])
            refine planT_fork ?_
            refine planT_alloc rfl rfl (fun w => Try.zeroValue49 w) rfl (fun g32 w32 y32 hg32 hs32 hb32 => ?_) planT_end
            have E32 : Ext w0 w32 := Mod.trans E31 y32
            have HG32 := Lib.hid (And.intro hg32 (And.intro hs32 (And.intro hb32 (And.intro E32 (And.intro y32 E31)))))
            clear hg32 hs32 hb32
            refine ⟨fun _ => by obtain ⟨a0, a1, a2, a3, a4, a5, a6, a7, a8, a9⟩ := (KE.out _ E32).1.cells; obtain ⟨b0, b1, b2, b3, b4, b5, b6, b7, b8, b9⟩ := (KE.out _ E32).2.1.cells; exact ⟨a0, a1, a2, a3, a4, a5, a6, a7, a8, a9, b0, b1, b2, b3, b4, b5, b6, b7, b8, b9⟩, ?_⟩
            (try simp only [Act.put, List.setIfInBounds_toArray, List.set_cons_zero, List.set_cons_succ])
            refine planT_fork ?_
            refine planT_store rfl rfl rfl rfl ((Ext.blk y32 (Ext.blk y31 (Ext.blk y30 HG29.out.2.2.1)))) (by kernel_rfl) rfl (evArr_all (Sl.one (KE.out _ (Mod.refl _ _)).2.2.1.rd) (Sl.one (KE.out _ (Mod.refl _ _)).2.2.1.wr) (Sl.one (KE.out _ (Mod.refl _ _)).2.2.1.fr.sl)) (fun w33 m33 hs33 hb33 => ?_) planT_end
            have E33 : Ext w0 w33 := Mod.trans' E32 m33 (fun q hq => .inr (by obtain ⟨z29a, z29b, -, z29e, z29y, z29p⟩ := HG29.out; have z29f := z29e.size; have z29g := z29y.size; have z29q := z29p.size; obtain ⟨z32a, z32b, -, z32e, z32y, z32p⟩ := HG32.out; have z32f := z32e.size; have z32g := z32y.size; have z32q := z32p.size; have sy29 := y29.size; have sy30 := y30.size; have sy31 := y31.size; have sy32 := y32.size; subst hq; omega))
            have HG33 := Lib.hid (And.intro hs33 (And.intro hb33 m33))
            clear hs33 hb33
            refine ⟨fun h => (by cases h), ?_⟩
            (try simp only [Act.put])
            refine planT_fork ?_
            refine planT_store rfl rfl rfl rfl ((Mod.blk m33 HG32.out.2.2.1 (by obtain ⟨z29a, z29b, -, z29e, z29y, z29p⟩ := HG29.out; have z29f := z29e.size; have z29g := z29y.size; have z29q := z29p.size; obtain ⟨z32a, z32b, -, z32e, z32y, z32p⟩ := HG32.out; have z32f := z32e.size; have z32g := z32y.size; have z32q := z32p.size; have sy29 := y29.size; have sy30 := y30.size; have sy31 := y31.size; have sy32 := y32.size; omega))) (by kernel_rfl) rfl (evArr_all (Sl.one (KE.out _ (Mod.refl _ _)).2.2.2.rd) (Sl.one (KE.out _ (Mod.refl _ _)).2.2.2.wr) (Sl.one (KE.out _ (Mod.refl _ _)).2.2.2.fr.sl)) (fun w34 m34 hs34 hb34 => ?_) planT_end
            have E34 : Ext w0 w34 := Mod.trans' E33 m34 (fun q hq => .inr (by obtain ⟨z29a, z29b, -, z29e, z29y, z29p⟩ := HG29.out; have z29f := z29e.size; have z29g := z29y.size; have z29q := z29p.size; obtain ⟨z32a, z32b, -, z32e, z32y, z32p⟩ := HG32.out; have z32f := z32e.size; have z32g := z32y.size; have z32q := z32p.size; have sy29 := y29.size; have sy30 := y30.size; have sy31 := y31.size; have sy32 := y32.size; subst hq; omega))
            have HG34 := Lib.hid (And.intro hs34 (And.intro hb34 m34))
            clear hs34 hb34
            refine ⟨fun h => (by cases h), ?_⟩
            (try simp only [Act.put])
            refine planT_nil ?_
            go_wp2_with fail
            go_meet
            exact ⟨g29, g32, rfl, rfl, ⟨(Mod.blk m34 HG33.out.2.1 (by obtain ⟨z29a, z29b, -, z29e, z29y, z29p⟩ := HG29.out; have z29f := z29e.size; have z29g := z29y.size; have z29q := z29p.size; obtain ⟨z32a, z32b, -, z32e, z32y, z32p⟩ := HG32.out; have z32f := z32e.size; have z32g := z32y.size; have z32q := z32p.size; have sy29 := y29.size; have sy30 := y30.size; have sy31 := y31.size; have sy32 := y32.size; omega))⟩, ⟨HG34.out.2.1⟩, E34⟩
          refine planT_alloc rfl rfl (fun w => Try.zeroValue49 w) rfl (fun g35 w35 y35 hg35 hs35 hb35 => ?_) planT_end
          have E35 : Ext w0 w35 := Mod.trans E30 y35
          have HG35 := Lib.hid (And.intro hg35 (And.intro hs35 (And.intro hb35 (And.intro E35 (And.intro y35 E30)))))
          clear hg35 hs35 hb35
          refine ⟨fun _ => by obtain ⟨a0, a1, a2, a3, a4, a5, a6, a7, a8, a9⟩ := (KE.out _ E35).1.cells; obtain ⟨b0, b1, b2, b3, b4, b5, b6, b7, b8, b9⟩ := (KE.out _ E35).2.1.cells; exact ⟨a0, a1, a2, a3, a4, a5, a6, a7, a8, a9, b0, b1, b2, b3, b4, b5, b6, b7, b8, b9⟩, ?_⟩
          (try simp only [Act.put, List.setIfInBounds_toArray, List.set_cons_zero, List.set_cons_succ])
          refine planT_fork ?_
          refine planT_alt (fun K hK => ?_) planT_end
          go_simp
          go_at_call 32
          refine (event_any _ b u (KE.out _ E35).2.2.2).mono ?_
          rintro r w36 ⟨rfl, y36⟩
          have E36 : Ext w0 w36 := Mod.trans E35 y36
          refine hK.out _ _ (by obtain ⟨a0, a1, a2, a3, a4, a5, a6, a7, a8, a9⟩ := (KE.out _ E36).1.cells; obtain ⟨b0, b1, b2, b3, b4, b5, b6, b7, b8, b9⟩ := (KE.out _ E36).2.1.cells; exact ⟨a0, a1, a2, a3, a4, a5, a6, a7, a8, a9, b0, b1, b2, b3, b4, b5, b6, b7, b8, b9⟩) ?_
          clear hK K
          (try simp only [Act.put, List.setIfInBounds_toArray, List.set_cons_zero, List.set_cons_succ])
          refine planT_fork ?_
          refine planT_store rfl rfl rfl rfl ((Ext.blk y36 (Ext.blk y35 (Ext.blk y30 HG29.out.2.2.1)))) (by kernel_rfl) rfl (evArr_all (Sl.one (KE.out _ (Mod.refl _ _)).2.2.1.rd) (Sl.one (KE.out _ (Mod.refl _ _)).2.2.1.wr) (Sl.one (KE.out _ (Mod.refl _ _)).2.2.1.fr.sl)) (fun w37 m37 hs37 hb37 => ?_) planT_end
          have E37 : Ext w0 w37 := Mod.trans' E36 m37 (fun q hq => .inr (by obtain ⟨z29a, z29b, -, z29e, z29y, z29p⟩ := HG29.out; have z29f := z29e.size; have z29g := z29y.size; have z29q := z29p.size; obtain ⟨z35a, z35b, -, z35e, z35y, z35p⟩ := HG35.out; have z35f := z35e.size; have z35g := z35y.size; have z35q := z35p.size; have sy29 := y29.size; have sy30 := y30.size; have sy35 := y35.size; have sy36 := y36.size; subst hq; omega))
          have HG37 := Lib.hid (And.intro hs37 (And.intro hb37 m37))
          clear hs37 hb37
          refine ⟨fun h => (by cases h), ?_⟩
          (try simp only [Act.put])
          refine planT_fork ?_
          refine planT_store rfl rfl rfl rfl ((Mod.blk m37 (Ext.blk y36 HG35.out.2.2.1) (by obtain ⟨z29a, z29b, -, z29e, z29y, z29p⟩ := HG29.out; have z29f := z29e.size; have z29g := z29y.size; have z29q := z29p.size; obtain ⟨z35a, z35b, -, z35e, z35y, z35p⟩ := HG35.out; have z35f := z35e.size; have z35g := z35y.size; have z35q := z35p.size; have sy29 := y29.size; have sy30 := y30.size; have sy35 := y35.size; have sy36 := y36.size; omega))) (by kernel_rfl) rfl (evArr_all (Sl.one (KE.out _ (Mod.refl _ _)).2.2.2.rd) (Sl.one (KE.out _ (Mod.refl _ _)).2.2.2.wr) (Sl.one (KE.out _ (Mod.refl _ _)).2.2.2.fr.sl)) (fun w38 m38 hs38 hb38 => ?_) planT_end
          have E38 : Ext w0 w38 := Mod.trans' E37 m38 (fun q hq => .inr (by obtain ⟨z29a, z29b, -, z29e, z29y, z29p⟩ := HG29.out; have z29f := z29e.size; have z29g := z29y.size; have z29q := z29p.size; obtain ⟨z35a, z35b, -, z35e, z35y, z35p⟩ := HG35.out; have z35f := z35e.size; have z35g := z35y.size; have z35q := z35p.size; have sy29 := y29.size; have sy30 := y30.size; have sy35 := y35.size; have sy36 := y36.size; subst hq; omega))
          have HG38 := Lib.hid (And.intro hs38 (And.intro hb38 m38))
          clear hs38 hb38
          refine ⟨fun h => (by cases h), ?_⟩
          (try simp only [Act.put])
          refine planT_nil ?_
          go_wp2_with fail
          go_meet
          exact ⟨g29, g35, rfl, rfl, ⟨(Mod.blk m38 HG37.out.2.1 (by obtain ⟨z29a, z29b, -, z29e, z29y, z29p⟩ := HG29.out; have z29f := z29e.size; have z29g := z29y.size; have z29q := z29p.size; obtain ⟨z35a, z35b, -, z35e, z35y, z35p⟩ := HG35.out; have z35f := z35e.size; have z35g := z35y.size; have z35q := z35p.size; have sy29 := y29.size; have sy30 := y30.size; have sy35 := y35.size; have sy36 := y36.size; omega))⟩, ⟨HG38.out.2.1⟩, E38⟩
        refine planT_alloc rfl rfl (fun w => Try.zeroValue49 w) rfl (fun g39 w39 y39 hg39 hs39 hb39 => ?_) planT_end
        have E39 : Ext w0 w39 := Mod.trans E29 y39
        have HG39 := Lib.hid (And.intro hg39 (And.intro hs39 (And.intro hb39 (And.intro E39 (And.intro y39 E29)))))
        clear hg39 hs39 hb39
        refine ⟨fun _ => by obtain ⟨a0, a1, a2, a3, a4, a5, a6, a7, a8, a9⟩ := (KE.out _ E39).1.cells; obtain ⟨b0, b1, b2, b3, b4, b5, b6, b7, b8, b9⟩ := (KE.out _ E39).2.1.cells; exact ⟨a0, a1, a2, a3, a4, a5, a6, a7, a8, a9, b0, b1, b2, b3, b4, b5, b6, b7, b8, b9⟩, ?_⟩
        (try simp only [Act.put, List.setIfInBounds_toArray, List.set_cons_zero, List.set_cons_succ])
        refine planT_fork ?_
        refine planT_alt (fun K hK => ?_) planT_end
        go_simp
        go_at_call 32
        refine (event_any _ a v (KE.out _ E39).2.2.1).mono ?_
        rintro r w40 ⟨rfl, y40⟩
        have E40 : Ext w0 w40 := Mod.trans E39 y40
        refine hK.out _ _ (by obtain ⟨a0, a1, a2, a3, a4, a5, a6, a7, a8, a9⟩ := (KE.out _ E40).1.cells; obtain ⟨b0, b1, b2, b3, b4, b5, b6, b7, b8, b9⟩ := (KE.out _ E40).2.1.cells; exact ⟨a0, a1, a2, a3, a4, a5, a6, a7, a8, a9, b0, b1, b2, b3, b4, b5, b6, b7, b8, b9⟩) ?_
        clear hK K
        (try simp only [Act.put, List.setIfInBounds_toArray, List.set_cons_zero, List.set_cons_succ])
        refine planT_fork ?_
        refine planT_alt (fun K hK => ?_) planT_end
        go_simp
        go_at_call 32
        refine (event_any _ b u (KE.out _ E40).2.2.2).mono ?_
        rintro r w41 ⟨rfl, y41⟩
        have E41 : Ext w0 w41 := Mod.trans E40 y41
        refine hK.out _ _ (by obtain ⟨a0, a1, a2, a3, a4, a5, a6, a7, a8, a9⟩ := (KE.out _ E41).1.cells; obtain ⟨b0, b1, b2, b3, b4, b5, b6, b7, b8, b9⟩ := (KE.out _ E41).2.1.cells; exact ⟨a0, a1, a2, a3, a4, a5, a6, a7, a8, a9, b0, b1, b2, b3, b4, b5, b6, b7, b8, b9⟩) ?_
        clear hK K
        (try simp only [Act.put, List.setIfInBounds_toArray, List.set_cons_zero, List.set_cons_succ])
        refine planT_fork ?_
        refine planT_store rfl rfl rfl rfl ((Ext.blk y41 (Ext.blk y40 (Ext.blk y39 HG29.out.2.2.1)))) (by kernel_rfl) rfl (evArr_all (Sl.one (KE.out _ (Mod.refl _ _)).2.2.1.rd) (Sl.one (KE.out _ (Mod.refl _ _)).2.2.1.wr) (Sl.one (KE.out _ (Mod.refl _ _)).2.2.1.fr.sl)) (fun w42 m42 hs42 hb42 => ?_) planT_end
        have E42 : Ext w0 w42 := Mod.trans' E41 m42 (fun q hq => .inr (by obtain ⟨z29a, z29b, -, z29e, z29y, z29p⟩ := HG29.out; have z29f := z29e.size; have z29g := z29y.size; have z29q := z29p.size; obtain ⟨z39a, z39b, -, z39e, z39y, z39p⟩ := HG39.out; have z39f := z39e.size; have z39g := z39y.size; have z39q := z39p.size; have sy29 := y29.size; have sy39 := y39.size; have sy40 := y40.size; have sy41 := y41.size; subst hq; omega))
        have HG42 := Lib.hid (And.intro hs42 (And.intro hb42 m42))
        clear hs42 hb42
        refine ⟨fun h => (by cases h), ?_⟩
        (try simp only [Act.put])
        refine planT_fork ?_
        refine planT_store rfl rfl rfl rfl ((Mod.blk m42 (Ext.blk y41 (Ext.blk y40 HG39.out.2.2.1)) (by obtain ⟨z29a, z29b, -, z29e, z29y, z29p⟩ := HG29.out; have z29f := z29e.size; have z29g := z29y.size; have z29q := z29p.size; obtain ⟨z39a, z39b, -, z39e, z39y, z39p⟩ := HG39.out; have z39f := z39e.size; have z39g := z39y.size; have z39q := z39p.size; have sy29 := y29.size; have sy39 := y39.size; have sy40 := y40.size; have sy41 := y41.size; omega))) (by kernel_rfl) rfl (evArr_all (Sl.one (KE.out _ (Mod.refl _ _)).2.2.2.rd) (Sl.one (KE.out _ (Mod.refl _ _)).2.2.2.wr) (Sl.one (KE.out _ (Mod.refl _ _)).2.2.2.fr.sl)) (fun w43 m43 hs43 hb43 => ?_) planT_end
        have E43 : Ext w0 w43 := Mod.trans' E42 m43 (fun q hq => .inr (by obtain ⟨z29a, z29b, -, z29e, z29y, z29p⟩ := HG29.out; have z29f := z29e.size; have z29g := z29y.size; have z29q := z29p.size; obtain ⟨z39a, z39b, -, z39e, z39y, z39p⟩ := HG39.out; have z39f := z39e.size; have z39g := z39y.size; have z39q := z39p.size; have sy29 := y29.size; have sy39 := y39.size; have sy40 := y40.size; have sy41 := y41.size; subst hq; omega))
        have HG43 := Lib.hid (And.intro hs43 (And.intro hb43 m43))
        clear hs43 hb43
        refine ⟨fun h => (by cases h), ?_⟩
        (try simp only [Act.put])
        refine planT_nil ?_
        go_wp2_with fail
        go_meet
        exact ⟨g29, g39, rfl, rfl, ⟨(Mod.blk m43 HG42.out.2.1 (by obtain ⟨z29a, z29b, -, z29e, z29y, z29p⟩ := HG29.out; have z29f := z29e.size; have z29g := z29y.size; have z29q := z29p.size; obtain ⟨z39a, z39b, -, z39e, z39y, z39p⟩ := HG39.out; have z39f := z39e.size; have z39g := z39y.size; have z39q := z39p.size; have sy29 := y29.size; have sy39 := y39.size; have sy40 := y40.size; have sy41 := y41.size; omega))⟩, ⟨HG43.out.2.1⟩, E43⟩
      refine planT_alloc rfl rfl (fun w => Try.zeroValue49 w) rfl (fun g44 w44 y44 hg44 hs44 hb44 => ?_) planT_end
      have E44 : Ext w0 w44 := Mod.trans (Mod.drew X2) y44
      have HG44 := Lib.hid (And.intro hg44 (And.intro hs44 (And.intro hb44 (And.intro E44 (And.intro y44 (Mod.drew X2))))))
      clear hg44 hs44 hb44
      refine ⟨fun _ => by obtain ⟨a0, a1, a2, a3, a4, a5, a6, a7, a8, a9⟩ := (KE.out _ E44).1.cells; obtain ⟨b0, b1, b2, b3, b4, b5, b6, b7, b8, b9⟩ := (KE.out _ E44).2.1.cells; exact ⟨a0, a1, a2, a3, a4, a5, a6, a7, a8, a9, b0, b1, b2, b3, b4, b5, b6, b7, b8, b9⟩, ?_⟩
      (try simp only [Act.put, List.setIfInBounds_toArray, List.set_cons_zero, List.set_cons_succ])
      refine planT_fork ?_
      refine planT_alt (fun K hK => ?_) ?_
      · go_simp
        go_at_call 32
        refine (event_any _ a v (KE.out _ E44).2.2.1).mono ?_
        rintro r w45 ⟨rfl, y45⟩
        have E45 : Ext w0 w45 := Mod.trans E44 y45
        refine hK.out _ _ (by obtain ⟨a0, a1, a2, a3, a4, a5, a6, a7, a8, a9⟩ := (KE.out _ E45).1.cells; obtain ⟨b0, b1, b2, b3, b4, b5, b6, b7, b8, b9⟩ := (KE.out _ E45).2.1.cells; exact ⟨a0, a1, a2, a3, a4, a5, a6, a7, a8, a9, b0, b1, b2, b3, b4, b5, b6, b7, b8, b9⟩) ?_
        clear hK K
        (try simp only [Act.put, List.setIfInBounds_toArray, List.set_cons_zero, List.set_cons_succ])
        refine planT_fork ?_
        refine planT_alt (fun K hK => ?_) ?_
        · go_simp
          go_at_call 32
          refine (event_any _ b u (KE.out _ E45).2.2.2).mono ?_
          rintro r w46 ⟨rfl, y46⟩
          have E46 : Ext w0 w46 := Mod.trans E45 y46
          refine hK.out _ _ (by obtain ⟨a0, a1, a2, a3, a4, a5, a6, a7, a8, a9⟩ := (KE.out _ E46).1.cells; obtain ⟨b0, b1, b2, b3, b4, b5, b6, b7, b8, b9⟩ := (KE.out _ E46).2.1.cells; exact ⟨a0, a1, a2, a3, a4, a5, a6, a7, a8, a9, b0, b1, b2, b3, b4, b5, b6, b7, b8, b9⟩) ?_
          clear hK K
          (try simp only [Act.put, List.setIfInBounds_toArray, List.set_cons_zero, List.set_cons_succ])
          refine planT_fork ?_
          refine planT_alloc rfl rfl (fun w => Try.zeroValue49 w) rfl (fun g47 w47 y47 hg47 hs47 hb47 => ?_) planT_end
          have E47 : Ext w0 w47 := Mod.trans E46 y47
          have HG47 := Lib.hid (And.intro hg47 (And.intro hs47 (And.intro hb47 (And.intro E47 (And.intro y47 E46)))))
          clear hg47 hs47 hb47
          refine ⟨fun _ => by obtain ⟨a0, a1, a2, a3, a4, a5, a6, a7, a8, a9⟩ := (KE.out _ E47).1.cells; obtain ⟨b0, b1, b2, b3, b4, b5, b6, b7, b8, b9⟩ := (KE.out _ E47).2.1.cells; exact ⟨a0, a1, a2, a3, a4, a5, a6, a7, a8, a9, b0, b1, b2, b3, b4, b5, b6, b7, b8, b9⟩, ?_⟩
          (try simp only [Act.put, List.setIfInBounds_toArray, List.set_cons_zero, List.set_cons_succ])
          refine planT_fork ?_
          refine planT_store rfl rfl rfl rfl (HG47.out.2.2.1) (by kernel_rfl) rfl (evArr_all (Sl.one (KE.out _ (Mod.refl _ _)).2.2.1.rd) (Sl.one (KE.out _ (Mod.refl _ _)).2.2.1.wr) (Sl.one (KE.out _ (Mod.refl _ _)).2.2.1.fr.sl)) (fun w48 m48 hs48 hb48 => ?_) planT_end
          have E48 : Ext w0 w48 := Mod.trans' E47 m48 (fun q hq => .inr (by obtain ⟨z44a, z44b, -, z44e, z44y, z44p⟩ := HG44.out; have z44f := z44e.size; have z44g := z44y.size; have z44q := z44p.size; obtain ⟨z47a, z47b, -, z47e, z47y, z47p⟩ := HG47.out; have z47f := z47e.size; have z47g := z47y.size; have z47q := z47p.size; have sy44 := y44.size; have sy45 := y45.size; have sy46 := y46.size; have sy47 := y47.size; subst hq; omega))
          have HG48 := Lib.hid (And.intro hs48 (And.intro hb48 m48))
          clear hs48 hb48
          refine ⟨fun h => (by cases h), ?_⟩
          (try simp only [Act.put])
          refine planT_fork ?_
          refine planT_store rfl rfl rfl rfl ((Mod.blk m48 (Ext.blk y47 (Ext.blk y46 (Ext.blk y45 HG44.out.2.2.1))) (by obtain ⟨z44a, z44b, -, z44e, z44y, z44p⟩ := HG44.out; have z44f := z44e.size; have z44g := z44y.size; have z44q := z44p.size; obtain ⟨z47a, z47b, -, z47e, z47y, z47p⟩ := HG47.out; have z47f := z47e.size; have z47g := z47y.size; have z47q := z47p.size; have sy44 := y44.size; have sy45 := y45.size; have sy46 := y46.size; have sy47 := y47.size; omega))) (by kernel_rfl) rfl (evArr_all (Sl.one (KE.out _ (Mod.refl _ _)).2.2.2.rd) (Sl.one (KE.out _ (Mod.refl _ _)).2.2.2.wr) (Sl.one (KE.out _ (Mod.refl _ _)).2.2.2.fr.sl)) (fun w49 m49 hs49 hb49 => ?_) planT_end
          have E49 : Ext w0 w49 := Mod.trans' E48 m49 (fun q hq => .inr (by obtain ⟨z44a, z44b, -, z44e, z44y, z44p⟩ := HG44.out; have z44f := z44e.size; have z44g := z44y.size; have z44q := z44p.size; obtain ⟨z47a, z47b, -, z47e, z47y, z47p⟩ := HG47.out; have z47f := z47e.size; have z47g := z47y.size; have z47q := z47p.size; have sy44 := y44.size; have sy45 := y45.size; have sy46 := y46.size; have sy47 := y47.size; subst hq; omega))
          have HG49 := Lib.hid (And.intro hs49 (And.intro hb49 m49))
          clear hs49 hb49
          refine ⟨fun h => (by cases h), ?_⟩
          (try simp only [Act.put])
          refine planT_nil ?_
          go_wp2_with fail
          go_meet
          exact ⟨g47, g44, rfl, rfl, ⟨(Mod.blk m49 HG48.out.2.1 (by obtain ⟨z44a, z44b, -, z44e, z44y, z44p⟩ := HG44.out; have z44f := z44e.size; have z44g := z44y.size; have z44q := z44p.size; obtain ⟨z47a, z47b, -, z47e, z47y, z47p⟩ := HG47.out; have z47f := z47e.size; have z47g := z47y.size; have z47q := z47p.size; have sy44 := y44.size; have sy45 := y45.size; have sy46 := y46.size; have sy47 := y47.size; omega))⟩, ⟨HG49.out.2.1⟩, E49⟩
        refine planT_alloc rfl rfl (fun w => Try.zeroValue49 w) rfl (fun g50 w50 y50 hg50 hs50 hb50 => ?_) planT_end
        have E50 : Ext w0 w50 := Mod.trans E45 y50
        have HG50 := Lib.hid (And.intro hg50 (And.intro hs50 (And.intro hb50 (And.intro E50 (And.intro y50 E45)))))
        clear hg50 hs50 hb50
        refine ⟨fun _ => by obtain ⟨a0, a1, a2, a3, a4, a5, a6, a7, a8, a9⟩ := (KE.out _ E50).1.cells; obtain ⟨b0, b1, b2, b3, b4, b5, b6, b7, b8, b9⟩ := (KE.out _ E50).2.1.cells; exact ⟨a0, a1, a2, a3, a4, a5, a6, a7, a8, a9, b0, b1, b2, b3, b4, b5, b6, b7, b8, b9⟩, ?_⟩
        (try simp only [Act.put, List.setIfInBounds_toArray, List.set_cons_zero, List.set_cons_succ])
        refine planT_fork ?_
        refine planT_alt (fun K hK => ?_) planT_end
        go_simp
        go_at_call 32
        refine (event_any _ b u (KE.out _ E50).2.2.2).mono ?_
        rintro r w51 ⟨rfl, y51⟩
        have E51 : Ext w0 w51 := Mod.trans E50 y51
        refine hK.out _ _ (by obtain ⟨a0, a1, a2, a3, a4, a5, a6, a7, a8, a9⟩ := (KE.out _ E51).1.cells; obtain ⟨b0, b1, b2, b3, b4, b5, b6, b7, b8, b9⟩ := (KE.out _ E51).2.1.cells; exact ⟨a0, a1, a2, a3, a4, a5, a6, a7, a8, a9, b0, b1, b2, b3, b4, b5, b6, b7, b8, b9⟩) ?_
        clear hK K
        (try simp only [Act.put, List.setIfInBounds_toArray, List.set_cons_zero, List.set_cons_succ])
        refine planT_fork ?_
        refine planT_store rfl rfl rfl rfl ((Ext.blk y51 HG50.out.2.2.1)) (by kernel_rfl) rfl (evArr_all (Sl.one (KE.out _ (Mod.refl _ _)).2.2.1.rd) (Sl.one (KE.out _ (Mod.refl _ _)).2.2.1.wr) (Sl.one (KE.out _ (Mod.refl _ _)).2.2.1.fr.sl)) (fun w52 m52 hs52 hb52 => ?_) planT_end
        have E52 : Ext w0 w52 := Mod.trans' E51 m52 (fun q hq => .inr (by obtain ⟨z44a, z44b, -, z44e, z44y, z44p⟩ := HG44.out; have z44f := z44e.size; have z44g := z44y.size; have z44q := z44p.size; obtain ⟨z50a, z50b, -, z50e, z50y, z50p⟩ := HG50.out; have z50f := z50e.size; have z50g := z50y.size; have z50q := z50p.size; have sy44 := y44.size; have sy45 := y45.size; have sy50 := y50.size; have sy51 := y51.size; subst hq; omega))
        have HG52 := Lib.hid (And.intro hs52 (And.intro hb52 m52))
        clear hs52 hb52
        refine ⟨fun h => (by cases h), ?_⟩
        (try simp only [Act.put])
        refine planT_fork ?_
        refine planT_store rfl rfl rfl rfl ((Mod.blk m52 (Ext.blk y51 (Ext.blk y50 (Ext.blk y45 HG44.out.2.2.1))) (by obtain ⟨z44a, z44b, -, z44e, z44y, z44p⟩ := HG44.out; have z44f := z44e.size; have z44g := z44y.size; have z44q := z44p.size; obtain ⟨z50a, z50b, -, z50e, z50y, z50p⟩ := HG50.out; have z50f := z50e.size; have z50g := z50y.size; have z50q := z50p.size; have sy44 := y44.size; have sy45 := y45.size; have sy50 := y50.size; have sy51 := y51.size; omega))) (by kernel_rfl) rfl (evArr_all (Sl.one (KE.out _ (Mod.refl _ _)).2.2.2.rd) (Sl.one (KE.out _ (Mod.refl _ _)).2.2.2.wr) (Sl.one (KE.out _ (Mod.refl _ _)).2.2.2.fr.sl)) (fun w53 m53 hs53 hb53 => ?_) planT_end
        have E53 : Ext w0 w53 := Mod.trans' E52 m53 (fun q hq => .inr (by obtain ⟨z44a, z44b, -, z44e, z44y, z44p⟩ := HG44.out; have z44f := z44e.size; have z44g := z44y.size; have z44q := z44p.size; obtain ⟨z50a, z50b, -, z50e, z50y, z50p⟩ := HG50.out; have z50f := z50e.size; have z50g := z50y.size; have z50q := z50p.size; have sy44 := y44.size; have sy45 := y45.size; have sy50 := y50.size; have sy51 := y51.size; subst hq; omega))
        have HG53 := Lib.hid (And.intro hs53 (And.intro hb53 m53))
        clear hs53 hb53
        refine ⟨fun h => (by cases h), ?_⟩
        (try simp only [Act.put])
        refine planT_nil ?_
        go_wp2_with fail
        go_meet
        exact ⟨g50, g44, rfl, rfl, ⟨(Mod.blk m53 HG52.out.2.1 (by obtain ⟨z44a, z44b, -, z44e, z44y, z44p⟩ := HG44.out; have z44f := z44e.size; have z44g := z44y.size; have z44q := z44p.size; obtain ⟨z50a, z50b, -, z50e, z50y, z50p⟩ := HG50.out; have z50f := z50e.size; have z50g := z50y.size; have z50q := z50p.size; have sy44 := y44.size; have sy45 := y45.size; have sy50 := y50.size; have sy51 := y51.size; omega))⟩, ⟨HG53.out.2.1⟩, E53⟩
      refine planT_alloc rfl rfl (fun w => Try.zeroValue49 w) rfl (fun g54 w54 y54 hg54 hs54 hb54 => ?_) planT_end
      have E54 : Ext w0 w54 := Mod.trans E44 y54
      have HG54 := Lib.hid (And.intro hg54 (And.intro hs54 (And.intro hb54 (And.intro E54 (And.intro y54 E44)))))
      clear hg54 hs54 hb54
      refine ⟨fun _ => by obtain ⟨a0, a1, a2, a3, a4, a5, a6, a7, a8, a9⟩ := (KE.out _ E54).1.cells; obtain ⟨b0, b1, b2, b3, b4, b5, b6, b7, b8, b9⟩ := (KE.out _ E54).2.1.cells; exact ⟨a0, a1, a2, a3, a4, a5, a6, a7, a8, a9, b0, b1, b2, b3, b4, b5, b6, b7, b8, b9⟩, ?_⟩
      (try simp only [Act.put, List.setIfInBounds_toArray, List.set_cons_zero, List.set_cons_succ])
      refine planT_fork ?_
      refine planT_alt (fun K hK => ?_) planT_end
      go_simp
      go_at_call 32
      refine (event_any _ a v (KE.out _ E54).2.2.1).mono ?_
      rintro r w55 ⟨rfl, y55⟩
      have E55 : Ext w0 w55 := Mod.trans E54 y55
      refine hK.out _ _ (by obtain ⟨a0, a1, a2, a3, a4, a5, a6, a7, a8, a9⟩ := (KE.out _ E55).1.cells; obtain ⟨b0, b1, b2, b3, b4, b5, b6, b7, b8, b9⟩ := (KE.out _ E55).2.1.cells; exact ⟨a0, a1, a2, a3, a4, a5, a6, a7, a8, a9, b0, b1, b2, b3, b4, b5, b6, b7, b8, b9⟩) ?_
      clear hK K
      (try simp only [Act.put, List.setIfInBounds_toArray, List.set_cons_zero, List.set_cons_succ])
      refine planT_fork ?_
      refine planT_alt (fun K hK => ?_) planT_end
      go_simp
      go_at_call 32
      refine (event_any _ b u (KE.out _ E55).2.2.2).mono ?_
      rintro r w56 ⟨rfl, y56⟩
      have E56 : Ext w0 w56 := Mod.trans E55 y56
      refine hK.out _ _ (by obtain ⟨a0, a1, a2, a3, a4, a5, a6, a7, a8, a9⟩ := (KE.out _ E56).1.cells; obtain ⟨b0, b1, b2, b3, b4, b5, b6, b7, b8, b9⟩ := (KE.out _ E56).2.1.cells; exact ⟨a0, a1, a2, a3, a4, a5, a6, a7, a8, a9, b0, b1, b2, b3, b4, b5, b6, b7, b8, b9⟩) ?_
      clear hK K
      (try simp only [Act.put, List.setIfInBounds_toArray, List.set_cons_zero, List.set_cons_succ])
      refine planT_fork ?_
      refine planT_store rfl rfl rfl rfl ((Ext.blk y56 (Ext.blk y55 HG54.out.2.2.1))) (by kernel_rfl) rfl (evArr_all (Sl.one (KE.out _ (Mod.refl _ _)).2.2.1.rd) (Sl.one (KE.out _ (Mod.refl _ _)).2.2.1.wr) (Sl.one (KE.out _ (Mod.refl _ _)).2.2.1.fr.sl)) (fun w57 m57 hs57 hb57 => ?_) planT_end
      have E57 : Ext w0 w57 := Mod.trans' E56 m57 (fun q hq => .inr (by obtain ⟨z44a, z44b, -, z44e, z44y, z44p⟩ := HG44.out; have z44f := z44e.size; have z44g := z44y.size; have z44q := z44p.size; obtain ⟨z54a, z54b, -, z54e, z54y, z54p⟩ := HG54.out; have z54f := z54e.size; have z54g := z54y.size; have z54q := z54p.size; have sy44 := y44.size; have sy54 := y54.size; have sy55 := y55.size; have sy56 := y56.size; subst hq; omega))
      have HG57 := Lib.hid (And.intro hs57 (And.intro hb57 m57))
      clear hs57 hb57
      refine ⟨fun h => (by cases h), ?_⟩
      (try simp only [Act.put])
      refine planT_fork ?_
      refine planT_store rfl rfl rfl rfl ((Mod.blk m57 (Ext.blk y56 (Ext.blk y55 (Ext.blk y54 HG44.out.2.2.1))) (by obtain ⟨z44a, z44b, -, z44e, z44y, z44p⟩ := HG44.out; have z44f := z44e.size; have z44g := z44y.size; have z44q := z44p.size; obtain ⟨z54a, z54b, -, z54e, z54y, z54p⟩ := HG54.out; have z54f := z54e.size; have z54g := z54y.size; have z54q := z54p.size; have sy44 := y44.size; have sy54 := y54.size; have sy55 := y55.size; have sy56 := y56.size; omega))) (by kernel_rfl) rfl (evArr_all (Sl.one (KE.out _ (Mod.refl _ _)).2.2.2.rd) (Sl.one (KE.out _ (Mod.refl _ _)).2.2.2.wr) (Sl.one (KE.out _ (Mod.refl _ _)).2.2.2.fr.sl)) (fun w58 m58 hs58 hb58 => ?_) planT_end
      have E58 : Ext w0 w58 := Mod.trans' E57 m58 (fun q hq => .inr (by obtain ⟨z44a, z44b, -, z44e, z44y, z44p⟩ := HG44.out; have z44f := z44e.size; have z44g := z44y.size; have z44q := z44p.size; obtain ⟨z54a, z54b, -, z54e, z54y, z54p⟩ := HG54.out; have z54f := z54e.size; have z54g := z54y.size; have z54q := z54p.size; have sy44 := y44.size; have sy54 := y54.size; have sy55 := y55.size; have sy56 := y56.size; subst hq; omega))
      have HG58 := Lib.hid (And.intro hs58 (And.intro hb58 m58))
      clear hs58 hb58
      refine ⟨fun h => (by cases h), ?_⟩
      (try simp only [Act.put])
      refine planT_nil ?_
      go_wp2_with fail
      go_meet
      exact ⟨g54, g44, rfl, rfl, ⟨(Mod.blk m58 HG57.out.2.1 (by obtain ⟨z44a, z44b, -, z44e, z44y, z44p⟩ := HG44.out; have z44f := z44e.size; have z44g := z44y.size; have z44q := z44p.size; obtain ⟨z54a, z54b, -, z54e, z54y, z54p⟩ := HG54.out; have z54f := z54e.size; have z54g := z54y.size; have z54q := z54p.size; have sy44 := y44.size; have sy54 := y54.size; have sy55 := y55.size; have sy56 := y56.size; omega))⟩, ⟨HG58.out.2.1⟩, E58⟩
    case rest =>
      obtain ⟨g5, g6, rfl, rfl, hb5, hb6, hx⟩ := hcut
      have HB := Lib.hid (And.intro hb5 (And.intro hb6 hx))
      clear hb5 hb6 hx
      go_wp2_with fail
      refine wp_region_plan [(0, false), (1, true), (2, true), (4, true), (3, false), (5, false), (6, true), (7, true), (8, true), (9, true), (11, true), (10, false), (12, false), (13, true), (14, true), (15, true), (16, true), (17, true), (19, true), (20, true), (18, false), (21, false), (22, true), (23, true), (24, true), (25, true), (26, true), (28, true), (29, true), (27, false), (30, false), (31, true), (32, true), (33, true)] (fun w' => w'.cell? ⟨g, 0, none⟩ = some (.int .i64 (a).ag) ∧ w'.cell? ⟨g, 1, none⟩ = some (.int .i64 (a).kind) ∧ w'.cell? ⟨g, 2, none⟩ = some (.bool (a).seq) ∧ w'.cell? ⟨g, 3, none⟩ = some (.bool (a).nt) ∧ w'.cell? ⟨g, 4, none⟩ = some (.int .i64 (a).blk) ∧ w'.cell? ⟨g, 5, none⟩ = some (.int .i64 (a).at_) ∧ w'.cell? ⟨g, 6, none⟩ = some (.int .i64 (a).size) ∧ w'.cell? ⟨g, 7, none⟩ = some v.r ∧ w'.cell? ⟨g, 8, none⟩ = some v.w ∧ w'.cell? ⟨g, 9, none⟩ = some v.f ∧ w'.cell? ⟨(g + 1), 0, none⟩ = some (.int .i64 (b).ag) ∧ w'.cell? ⟨(g + 1), 1, none⟩ = some (.int .i64 (b).kind) ∧ w'.cell? ⟨(g + 1), 2, none⟩ = some (.bool (b).seq) ∧ w'.cell? ⟨(g + 1), 3, none⟩ = some (.bool (b).nt) ∧ w'.cell? ⟨(g + 1), 4, none⟩ = some (.int .i64 (b).blk) ∧ w'.cell? ⟨(g + 1), 5, none⟩ = some (.int .i64 (b).at_) ∧ w'.cell? ⟨(g + 1), 6, none⟩ = some (.int .i64 (b).size) ∧ w'.cell? ⟨(g + 1), 7, none⟩ = some u.r ∧ w'.cell? ⟨(g + 1), 8, none⟩ = some u.w ∧ w'.cell? ⟨(g + 1), 9, none⟩ = some u.f ∧ w'.cell? ⟨g5, 0, none⟩ = some (.int .i64 (a).ag) ∧ w'.cell? ⟨g5, 1, none⟩ = some (.int .i64 (a).kind) ∧ w'.cell? ⟨g5, 2, none⟩ = some (.bool (a).seq) ∧ w'.cell? ⟨g5, 3, none⟩ = some (.bool (a).nt) ∧ w'.cell? ⟨g5, 4, none⟩ = some (.int .i64 (a).blk) ∧ w'.cell? ⟨g5, 5, none⟩ = some (.int .i64 (a).at_) ∧ w'.cell? ⟨g5, 6, none⟩ = some (.int .i64 (a).size) ∧ w'.cell? ⟨g5, 7, none⟩ = some v.r ∧ w'.cell? ⟨g5, 8, none⟩ = some v.w ∧ w'.cell? ⟨g5, 9, none⟩ = some v.f ∧ w'.cell? ⟨g6, 0, none⟩ = some (.int .i64 (b).ag) ∧ w'.cell? ⟨g6, 1, none⟩ = some (.int .i64 (b).kind) ∧ w'.cell? ⟨g6, 2, none⟩ = some (.bool (b).seq) ∧ w'.cell? ⟨g6, 3, none⟩ = some (.bool (b).nt) ∧ w'.cell? ⟨g6, 4, none⟩ = some (.int .i64 (b).blk) ∧ w'.cell? ⟨g6, 5, none⟩ = some (.int .i64 (b).at_) ∧ w'.cell? ⟨g6, 6, none⟩ = some (.int .i64 (b).size) ∧ w'.cell? ⟨g6, 7, none⟩ = some u.r ∧ w'.cell? ⟨g6, 8, none⟩ = some u.w ∧ w'.cell? ⟨g6, 9, none⟩ = some u.f) (by kernel_rfl) (by kernel_rfl) (by kernel_rfl) (fun _ d _ _ _ h => by cases d <;> exact h) (by obtain ⟨a0, a1, a2, a3, a4, a5, a6, a7, a8, a9⟩ := (KE.out _ (HB.out.2.2.trans (Mod.drew (Mod.refl _ _)))).1.cells; obtain ⟨b0, b1, b2, b3, b4, b5, b6, b7, b8, b9⟩ := (KE.out _ (HB.out.2.2.trans (Mod.drew (Mod.refl _ _)))).2.1.cells; obtain ⟨c0, c1, c2, c3, c4, c5, c6, c7, c8, c9⟩ := (HB.out.1.ext (Mod.drew (Mod.refl _ _))).cells; obtain ⟨d0, d1, d2, d3, d4, d5, d6, d7, d8, d9⟩ := (HB.out.2.1.ext (Mod.drew (Mod.refl _ _))).cells; exact ⟨a0, a1, a2, a3, a4, a5, a6, a7, a8, a9, b0, b1, b2, b3, b4, b5, b6, b7, b8, b9, c0, c1, c2, c3, c4, c5, c6, c7, c8, c9, d0, d1, d2, d3, d4, d5, d6, d7, d8, d9⟩) ?_
      simp only [planL, getO]
      refine plan_call (fun K hK => ?_)
      go_simp
      go_at_call 31; refine (first14_any _).mono ?_; rintro r w20 ⟨rfl, y20⟩; have E20 : Ext _ w20 := Mod.trans (Mod.drew (Mod.refl _ _)) y20
      refine hK.out _ _ (by obtain ⟨a0, a1, a2, a3, a4, a5, a6, a7, a8, a9⟩ := (KE.out _ (HB.out.2.2.trans E20)).1.cells; obtain ⟨b0, b1, b2, b3, b4, b5, b6, b7, b8, b9⟩ := (KE.out _ (HB.out.2.2.trans E20)).2.1.cells; obtain ⟨c0, c1, c2, c3, c4, c5, c6, c7, c8, c9⟩ := (HB.out.1.ext E20).cells; obtain ⟨d0, d1, d2, d3, d4, d5, d6, d7, d8, d9⟩ := (HB.out.2.1.ext E20).cells; exact ⟨a0, a1, a2, a3, a4, a5, a6, a7, a8, a9, b0, b1, b2, b3, b4, b5, b6, b7, b8, b9, c0, c1, c2, c3, c4, c5, c6, c7, c8, c9, d0, d1, d2, d3, d4, d5, d6, d7, d8, d9⟩) ?_
      clear hK K
      (try simp only [Act.put, List.setIfInBounds_toArray, List.set_cons_zero, List.set_cons_succ])
      iterate 3 (refine plan_take (v := ?_) (by rfl) (fun wS hS => ?_) ?_; rotate_left; (focus ((try dsimp only at hS); go_simp; (try with_reducible rfl); done)); (try simp only [Act.put, List.setIfInBounds_toArray, List.set_cons_zero, List.set_cons_succ]))
      refine plan_call (fun K hK => ?_)
      go_simp
      go_at_call 33; refine (reads_any _ a v (KE.out _ (HB.out.2.2.trans E20)).2.2.1).mono ?_; rintro r w21 ⟨rfl, y21⟩; have E21 : Ext _ w21 := Mod.trans E20 y21
      refine hK.out _ _ (by obtain ⟨a0, a1, a2, a3, a4, a5, a6, a7, a8, a9⟩ := (KE.out _ (HB.out.2.2.trans E21)).1.cells; obtain ⟨b0, b1, b2, b3, b4, b5, b6, b7, b8, b9⟩ := (KE.out _ (HB.out.2.2.trans E21)).2.1.cells; obtain ⟨c0, c1, c2, c3, c4, c5, c6, c7, c8, c9⟩ := (HB.out.1.ext E21).cells; obtain ⟨d0, d1, d2, d3, d4, d5, d6, d7, d8, d9⟩ := (HB.out.2.1.ext E21).cells; exact ⟨a0, a1, a2, a3, a4, a5, a6, a7, a8, a9, b0, b1, b2, b3, b4, b5, b6, b7, b8, b9, c0, c1, c2, c3, c4, c5, c6, c7, c8, c9, d0, d1, d2, d3, d4, d5, d6, d7, d8, d9⟩) ?_
      clear hK K
      (try simp only [Act.put, List.setIfInBounds_toArray, List.set_cons_zero, List.set_cons_succ])
      refine plan_call (fun K hK => ?_)
      go_simp
      go_at_call 34; refine (rreads_any _ a v (KE.out _ (HB.out.2.2.trans E21)).2.2.1).mono ?_; rintro r w22 ⟨rfl, y22⟩; have E22 : Ext _ w22 := Mod.trans E21 y22
      refine hK.out _ _ (by obtain ⟨a0, a1, a2, a3, a4, a5, a6, a7, a8, a9⟩ := (KE.out _ (HB.out.2.2.trans E22)).1.cells; obtain ⟨b0, b1, b2, b3, b4, b5, b6, b7, b8, b9⟩ := (KE.out _ (HB.out.2.2.trans E22)).2.1.cells; obtain ⟨c0, c1, c2, c3, c4, c5, c6, c7, c8, c9⟩ := (HB.out.1.ext E22).cells; obtain ⟨d0, d1, d2, d3, d4, d5, d6, d7, d8, d9⟩ := (HB.out.2.1.ext E22).cells; exact ⟨a0, a1, a2, a3, a4, a5, a6, a7, a8, a9, b0, b1, b2, b3, b4, b5, b6, b7, b8, b9, c0, c1, c2, c3, c4, c5, c6, c7, c8, c9, d0, d1, d2, d3, d4, d5, d6, d7, d8, d9⟩) ?_
      clear hK K
      (try simp only [Act.put, List.setIfInBounds_toArray, List.set_cons_zero, List.set_cons_succ])
      iterate 5 (refine plan_take (v := ?_) (by rfl) (fun wS hS => ?_) ?_; rotate_left; (focus ((try dsimp only at hS); go_simp; (try with_reducible rfl); done)); (try simp only [Act.put, List.setIfInBounds_toArray, List.set_cons_zero, List.set_cons_succ]))
      refine plan_call (fun K hK => ?_)
      go_simp
      go_at_call 35; refine (writes_any _ a v (KE.out _ (HB.out.2.2.trans E22)).2.2.1).mono ?_; rintro r w23 ⟨rfl, y23⟩; have E23 : Ext _ w23 := Mod.trans E22 y23
      refine hK.out _ _ (by obtain ⟨a0, a1, a2, a3, a4, a5, a6, a7, a8, a9⟩ := (KE.out _ (HB.out.2.2.trans E23)).1.cells; obtain ⟨b0, b1, b2, b3, b4, b5, b6, b7, b8, b9⟩ := (KE.out _ (HB.out.2.2.trans E23)).2.1.cells; obtain ⟨c0, c1, c2, c3, c4, c5, c6, c7, c8, c9⟩ := (HB.out.1.ext E23).cells; obtain ⟨d0, d1, d2, d3, d4, d5, d6, d7, d8, d9⟩ := (HB.out.2.1.ext E23).cells; exact ⟨a0, a1, a2, a3, a4, a5, a6, a7, a8, a9, b0, b1, b2, b3, b4, b5, b6, b7, b8, b9, c0, c1, c2, c3, c4, c5, c6, c7, c8, c9, d0, d1, d2, d3, d4, d5, d6, d7, d8, d9⟩) ?_
      clear hK K
      (try simp only [Act.put, List.setIfInBounds_toArray, List.set_cons_zero, List.set_cons_succ])
      refine plan_call (fun K hK => ?_)
      go_simp
      go_at_call 36; refine (rwrites_any _ a v (KE.out _ (HB.out.2.2.trans E23)).2.2.1).mono ?_; rintro r w24 ⟨rfl, y24⟩; have E24 : Ext _ w24 := Mod.trans E23 y24
      refine hK.out _ _ (by obtain ⟨a0, a1, a2, a3, a4, a5, a6, a7, a8, a9⟩ := (KE.out _ (HB.out.2.2.trans E24)).1.cells; obtain ⟨b0, b1, b2, b3, b4, b5, b6, b7, b8, b9⟩ := (KE.out _ (HB.out.2.2.trans E24)).2.1.cells; obtain ⟨c0, c1, c2, c3, c4, c5, c6, c7, c8, c9⟩ := (HB.out.1.ext E24).cells; obtain ⟨d0, d1, d2, d3, d4, d5, d6, d7, d8, d9⟩ := (HB.out.2.1.ext E24).cells; exact ⟨a0, a1, a2, a3, a4, a5, a6, a7, a8, a9, b0, b1, b2, b3, b4, b5, b6, b7, b8, b9, c0, c1, c2, c3, c4, c5, c6, c7, c8, c9, d0, d1, d2, d3, d4, d5, d6, d7, d8, d9⟩) ?_
      clear hK K
      (try simp only [Act.put, List.setIfInBounds_toArray, List.set_cons_zero, List.set_cons_succ])
      iterate 7 (refine plan_take (v := ?_) (by rfl) (fun wS hS => ?_) ?_; rotate_left; (focus ((try dsimp only at hS); go_simp; (try with_reducible rfl); done)); (try simp only [Act.put, List.setIfInBounds_toArray, List.set_cons_zero, List.set_cons_succ]))
      refine plan_call (fun K hK => ?_)
      go_simp
      go_at_call 30; refine (equal_any _ a b v u (KE.out _ (HB.out.2.2.trans E24)).2.2.1 (KE.out _ (HB.out.2.2.trans E24)).2.2.2).mono ?_; rintro r w25 ⟨rfl, y25⟩; have E25 : Ext _ w25 := Mod.trans E24 y25
      refine hK.out _ _ (by obtain ⟨a0, a1, a2, a3, a4, a5, a6, a7, a8, a9⟩ := (KE.out _ (HB.out.2.2.trans E25)).1.cells; obtain ⟨b0, b1, b2, b3, b4, b5, b6, b7, b8, b9⟩ := (KE.out _ (HB.out.2.2.trans E25)).2.1.cells; obtain ⟨c0, c1, c2, c3, c4, c5, c6, c7, c8, c9⟩ := (HB.out.1.ext E25).cells; obtain ⟨d0, d1, d2, d3, d4, d5, d6, d7, d8, d9⟩ := (HB.out.2.1.ext E25).cells; exact ⟨a0, a1, a2, a3, a4, a5, a6, a7, a8, a9, b0, b1, b2, b3, b4, b5, b6, b7, b8, b9, c0, c1, c2, c3, c4, c5, c6, c7, c8, c9, d0, d1, d2, d3, d4, d5, d6, d7, d8, d9⟩) ?_
      clear hK K
      (try simp only [Act.put, List.setIfInBounds_toArray, List.set_cons_zero, List.set_cons_succ])
      refine plan_call (fun K hK => ?_)
      go_simp
      go_at_call 37; refine (requal_any _ a b v u (KE.out _ (HB.out.2.2.trans E25)).2.2.1 (KE.out _ (HB.out.2.2.trans E25)).2.2.2).mono ?_; rintro r w26 ⟨rfl, y26⟩; have E26 : Ext _ w26 := Mod.trans E25 y26
      refine hK.out _ _ (by obtain ⟨a0, a1, a2, a3, a4, a5, a6, a7, a8, a9⟩ := (KE.out _ (HB.out.2.2.trans E26)).1.cells; obtain ⟨b0, b1, b2, b3, b4, b5, b6, b7, b8, b9⟩ := (KE.out _ (HB.out.2.2.trans E26)).2.1.cells; obtain ⟨c0, c1, c2, c3, c4, c5, c6, c7, c8, c9⟩ := (HB.out.1.ext E26).cells; obtain ⟨d0, d1, d2, d3, d4, d5, d6, d7, d8, d9⟩ := (HB.out.2.1.ext E26).cells; exact ⟨a0, a1, a2, a3, a4, a5, a6, a7, a8, a9, b0, b1, b2, b3, b4, b5, b6, b7, b8, b9, c0, c1, c2, c3, c4, c5, c6, c7, c8, c9, d0, d1, d2, d3, d4, d5, d6, d7, d8, d9⟩) ?_
      clear hK K
      (try simp only [Act.put, List.setIfInBounds_toArray, List.set_cons_zero, List.set_cons_succ])
      iterate 7 (refine plan_take (v := ?_) (by rfl) (fun wS hS => ?_) ?_; rotate_left; (focus ((try dsimp only at hS); go_simp; (try with_reducible rfl); done)); (try simp only [Act.put, List.setIfInBounds_toArray, List.set_cons_zero, List.set_cons_succ]))
      refine plan_call (fun K hK => ?_)
      go_simp
      go_at_call 38; refine (overlap_any _ a b v u (KE.out _ (HB.out.2.2.trans E26)).2.2.1 (KE.out _ (HB.out.2.2.trans E26)).2.2.2).mono ?_; rintro r w27 ⟨rfl, y27⟩; have E27 : Ext _ w27 := Mod.trans E26 y27
      refine hK.out _ _ (by obtain ⟨a0, a1, a2, a3, a4, a5, a6, a7, a8, a9⟩ := (KE.out _ (HB.out.2.2.trans E27)).1.cells; obtain ⟨b0, b1, b2, b3, b4, b5, b6, b7, b8, b9⟩ := (KE.out _ (HB.out.2.2.trans E27)).2.1.cells; obtain ⟨c0, c1, c2, c3, c4, c5, c6, c7, c8, c9⟩ := (HB.out.1.ext E27).cells; obtain ⟨d0, d1, d2, d3, d4, d5, d6, d7, d8, d9⟩ := (HB.out.2.1.ext E27).cells; exact ⟨a0, a1, a2, a3, a4, a5, a6, a7, a8, a9, b0, b1, b2, b3, b4, b5, b6, b7, b8, b9, c0, c1, c2, c3, c4, c5, c6, c7, c8, c9, d0, d1, d2, d3, d4, d5, d6, d7, d8, d9⟩) ?_
      clear hK K
      (try simp only [Act.put, List.setIfInBounds_toArray, List.set_cons_zero, List.set_cons_succ])
      refine plan_call (fun K hK => ?_)
      go_simp
      go_at_call 39; refine (roverlap_any _ a b v u (KE.out _ (HB.out.2.2.trans E27)).2.2.1 (KE.out _ (HB.out.2.2.trans E27)).2.2.2).mono ?_; rintro r w28 ⟨rfl, y28⟩; have E28 : Ext _ w28 := Mod.trans E27 y28
      refine hK.out _ _ (by obtain ⟨a0, a1, a2, a3, a4, a5, a6, a7, a8, a9⟩ := (KE.out _ (HB.out.2.2.trans E28)).1.cells; obtain ⟨b0, b1, b2, b3, b4, b5, b6, b7, b8, b9⟩ := (KE.out _ (HB.out.2.2.trans E28)).2.1.cells; obtain ⟨c0, c1, c2, c3, c4, c5, c6, c7, c8, c9⟩ := (HB.out.1.ext E28).cells; obtain ⟨d0, d1, d2, d3, d4, d5, d6, d7, d8, d9⟩ := (HB.out.2.1.ext E28).cells; exact ⟨a0, a1, a2, a3, a4, a5, a6, a7, a8, a9, b0, b1, b2, b3, b4, b5, b6, b7, b8, b9, c0, c1, c2, c3, c4, c5, c6, c7, c8, c9, d0, d1, d2, d3, d4, d5, d6, d7, d8, d9⟩) ?_
      clear hK K
      (try simp only [Act.put, List.setIfInBounds_toArray, List.set_cons_zero, List.set_cons_succ])
      iterate 3 (refine plan_take (v := ?_) (by rfl) (fun wS hS => ?_) ?_; rotate_left; (focus ((try dsimp only at hS); go_simp; (try with_reducible rfl); done)); (try simp only [Act.put, List.setIfInBounds_toArray, List.set_cons_zero, List.set_cons_succ]))
      refine plan_nil ?_
      go_wp2_with fail
      go_ret
      exact ⟨rfl, (HW.out.2.2.trans HB.out.2.2).trans E28⟩
end Go.Proofs.Ytkibdabbjbcboaa
