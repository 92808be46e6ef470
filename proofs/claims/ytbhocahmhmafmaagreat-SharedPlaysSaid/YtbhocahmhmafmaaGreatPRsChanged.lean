/-
  The contracts of (*renref18.Shared).old and changed. No condition. The contracts of (*renref18.Shared).Change and Swap. No condition.
-/
import Derived.Test.YtbhocahmhmafmaaGreatPRsWord
import Derived.Test.YtbhocahmhmafmaaGreatPShNote
import Derived.Test.YtbhocahmhmafmaaGreatPElemAt
namespace Go.Proofs.YtbhocahmhmafmaaGreat
open Go.Ren Go.RowKit
set_option linter.unusedVariables false
def RsOld (z : RsV) (s s' : Shm) (n : Nat) (w : World) (e : Ending) (w' : World) : Prop := e = .returned (.int .u64 (n : Int)) ∧ RsTo z s s' w w'
set_option maxRecDepth 100000 in
set_option maxHeartbeats 1600000 in
theorem rsold_any (w : World) (z : RsV) (s : Shm) (h : RsIn w z s) {g : Nat} (hg : g = z.g) (i : Nat) (k pa size : Int) (hA : Asked s (i : Int) k pa size) :
 Calls Tryz.prog 116 #[ptr g, .int .i64 (i : Int), .int .i64 k, .int .i64 pa, .int .i64 size] w (RsOld z s (shDrain s (i : Int)) (shOld s (i : Int) k pa size) w) := by
 have HS := Lib.hid h
 have HA := Lib.hid hA
 have HG := Lib.hid hg
 obtain ⟨i', hi', hin⟩ := hA.ag
 have hii : i = i' := by omega
 subst hii
 obtain ⟨qv, qi, m, hd⟩ := h.dr hg hin
 have HD := Lib.hid hd
 have HI := Lib.hid hin
 have ix := hd.ix
 obtain ⟨c2, cq, c1⟩ := hd.km w (Mod.refl _ _)
 clear h hA hg hd hi' hin
 go_enter Tryz.func116, Tryz.ntmps116
 go_upto_region 1 with fail
 refine wp_region_plan [(0, true), (1, true), (2, true), (3, true), (4, true), (5, true), (6, true), (7, true), (8, true), (9, true), (10, true), (11, false)] (fun w' => w'.cell? ⟨g, 2, none⟩ = some qv ∧ w'.cell? (at_ qv i) = some qi ∧ w'.cell? ⟨g, 1, none⟩ = some m) (by kernel_rfl) (by kernel_rfl) (by kernel_rfl) (fun _ d _ _ _ h => by cases d <;> exact h) (⟨c2, cq, c1⟩) ?_
 simp only [planL, getO]
 iterate 11 (refine plan_take (v := ?_) (by rfl) (fun wS hS => ?_) ?_; rotate_left; (focus ((try dsimp only at hS); go_simp; (try with_reducible rfl); done)); (try simp only [Act.put, List.setIfInBounds_toArray, List.set_cons_zero, List.set_cons_succ]))
 refine plan_call (fun K hK => ?_)
 go_simp
 go_at_call 106; refine (rdrain_any _ qi m s.room (quB s (i : Int)) (z.SQ i) (HD.out.q _ (Mod.drew (Mod.refl _ _))) s.M z.U (HD.out.b _ (Mod.drew (Mod.refl _ _))) HD.out.ap).mono ?_; rintro en v1 ⟨rfl, S1, q1, b1, m1, sf1⟩; have M1 : Mod (fun k => z.SQ i k ∨ z.U k) w v1 := Mod.trans (Mod.drew (Mod.refl _ _)) m1; have HE := Lib.hid (And.intro q1 (And.intro b1 (And.intro M1 sf1)))
 refine hK.out _ _ (HD.out.km _ M1) ?_
 clear hK K
 (try simp only [Act.put, List.setIfInBounds_toArray, List.set_cons_zero, List.set_cons_succ])
 refine plan_nil ?_
 have HP : Hid (RsTo z s (shDrain s (i : Int)) w v1) := Lib.hid (by
  obtain ⟨q1, b1, M1, sf1⟩ := HE.out
  have hok := HS.out.ok.drain HI.out
  unfold shDrain at hok ⊢
  rw [Int.toNat_natCast] at hok ⊢
  exact (HD.out.fin q1 b1 M1 (fun k hk => (sf1 k hk).imp id (fun h => by simpa only [World.size_drew] using h)) hok).to)
 obtain ⟨z1, e1, h1, m1', f1⟩ := HP.out.at_ HG.out
 have H1 := Lib.hid (And.intro e1 (And.intro h1 (And.intro m1' f1)))
 clear c1 c2 cq ix
 have c1 := (h1.at_cells e1).2.1
 clear e1 h1 m1' f1
 go_wp2_with fail
 refine (rread_any _ _ _ _ H1.out.2.1.blks k pa size).mono ?_
 rintro e w2 ⟨v, u, rfl, ov, ou, x2, fv, fu⟩
 have HV := Lib.hid (And.intro ov (And.intro ou x2))
 clear ov ou x2 fv fu c1
 go_wp2_with fail
 refine (rword_any _ _ _ HV.out.1.sl (by have h1 := bread_len20 H1.out.2.1.ok.bk (k := k) (a := pa) (n := size); have h2 := HA.out.sz; omega)).mono ?_
 rintro e w3 ⟨rfl, rfl⟩
 go_wp2_with fail
 go_ret
 exact ⟨rfl, RsTo.then HG.out H1.out.1 H1.out.2.2.1 H1.out.2.2.2 (H1.out.2.1.to HV.out.2.2)⟩
set_option maxRecDepth 100000 in
set_option maxHeartbeats 1600000 in
theorem rschanged_any (w0 : World) (z : RsV) (s : Shm) (h : RsIn w0 z s) {g : Nat} (hg : g = z.g) (ag k pa size : Int) (hA : Asked s ag k pa size) (hl : s.L.ev.length < 1000) (m : Nat) (hm : m < 18446744073709551616) (put : Bool) :
 Calls Tryz.prog 117 #[ptr g, .int .i64 ag, .int .i64 k, .int .i64 pa, .int .i64 size, .int .u64 (m : Int), .bool put] w0 (RsOld z s (shWhole s ag k pa size m put) (wordN (breadB s.M k pa size)) w0) := by
 have HS := Lib.hid (And.intro h hg)
 have HA := Lib.hid (And.intro hA (And.intro hl hm))
 have c1 := (h.at_cells hg).2.1
 clear h hg hA hl hm
 go_enter Tryz.func117, Tryz.ntmps117
 go_wp2_with fail
 refine (rread_any _ _ _ _ HS.out.1.blks k pa size).mono ?_
 rintro e w ⟨v, u, rfl, ob, oy, x, fb, fy⟩
 obtain ⟨la1, lc1, hv1, -⟩ := ob.sl.shape
 obtain ⟨la2, lc2, hv2, -⟩ := oy.sl.shape
 subst hv1 hv2
 obtain ⟨lb1, hlb1⟩ : ∃ n, n = (breadB s.M k pa size).length := ⟨_, rfl⟩
 obtain ⟨lb2, hlb2⟩ : ∃ n, n = (breadY s.M k pa size).length := ⟨_, rfl⟩
 rw [← hlb1] at ob fb ⊢
 rw [← hlb2] at oy fy ⊢
 obtain ⟨w1, hw1⟩ : ∃ W, W = w.alloc (.cells (evArr (whEv s ag k pa size) ⟨.slice la1 lb1 lc1, .slice none 0 0, .slice la2 lb2 lc2⟩) 116) := ⟨_, rfl⟩
 obtain ⟨g1, hg1⟩ : ∃ g, g = w.heap.size := ⟨_, rfl⟩
 have x1 : Ext w w1 := by rw [hw1]; exact (Mod.refl _ _).alloc _
 have b1 : REvBox w1 g1 (whEv s ag k pa size) ⟨.slice la1 lb1 lc1, .slice none 0 0, .slice la2 lb2 lc2⟩ := by rw [hw1, hg1]; exact ⟨heap_alloc_new w _⟩
 have HLB := Lib.hid (And.intro hlb1 (And.intro hlb2 (show lb1 ≤ 8 by have h1 := bread_len20 HS.out.1.ok.bk (k := k) (a := pa) (n := size); have h2 := HA.out.1.sz; omega)))
 have HX := Lib.hid x
 have HO := Lib.hid (And.intro ob (And.intro oy (And.intro fb fy)))
 have HW := Lib.hid (And.intro hw1 (And.intro hg1 (And.intro x1 b1)))
 clear x ob oy fb fy hlb1 hlb2 hw1 hg1 x1 b1 c1
 cases put with
 | false =>
  have HOK : Hid (ShOk (shPush s (whEv s ag k pa size))) := Lib.hid (HS.out.1.ok.whole (w := m) (put := false) HA.out.1 HA.out.2.1)
  go_upto_region 3 with fail
  rw [← HW.out.2.1]
  rw [show w.alloc (.cells #[.int .i64 ag, .int .i64 1, .bool true, .bool true, .int .i64 k, .int .i64 pa, .int .i64 size, .slice la1 lb1 lc1, .slice none 0 0, .slice la2 lb2 lc2] 116) = w1 from HW.out.1.symm]
  obtain ⟨c0, c1, c2, c3, c4, c5, c6, c7, c8, c9⟩ := HW.out.2.2.2.cells
  simp only [whEv] at c0 c1 c2 c3 c4 c5 c6
  go_wp2_with fail
  refine (rslog_at (v := ⟨.slice la1 lb1 lc1, .slice none 0 0, .slice la2 lb2 lc2⟩) HS.out.2 (HS.out.1.ext (HX.out.trans HW.out.2.2.1)) (e := whEv s ag k pa size) ⟨by have h5 := HO.out.1.ext HW.out.2.2.1; rw [HLB.out.1] at h5 ⊢; exact h5, Own.nil _ _ _, by have h5 := HO.out.2.1.ext HW.out.2.2.1; rw [HLB.out.2.1] at h5 ⊢; exact h5⟩ (fun q hq => rfp_apart HS.out.1 (by rcases hq with hq | hq | hq; exact HO.out.2.2.1 q hq; cases hq; exact HO.out.2.2.2 q hq)) HOK.out).mono ?_
  rintro e w4 P4
  obtain rfl := P4.1
  have HP4 := Lib.hid P4
  clear P4 c0 c1 c2 c3 c4 c5 c6 c7 c8 c9
  go_wp2_with fail
  refine (rword_any _ _ (breadB s.M k pa size) (by have h5 : Sl w4 (.slice la1 lb1 lc1) 1 (breadB s.M k pa size).length ((breadB s.M k pa size).map bv) := (rnote_own HP4.out).rd.sl; exact h5) (by have := HLB.out; omega)).mono ?_
  rintro e w5 ⟨rfl, rfl⟩
  go_wp2_with fail
  go_ret
  exact ⟨rfl, HS.out.1.note_to (HX.out.trans HW.out.2.2.1) (fun q hq => by rcases hq with hq | hq | hq; exact HO.out.2.2.1 q hq; cases hq; exact HO.out.2.2.2 q hq) HP4.out⟩
 | true =>
  obtain ⟨L, hL⟩ : ∃ L, L = bytesN size.toNat m := ⟨_, rfl⟩
  have HL : Hid (L = bytesN size.toNat m ∧ L.length = size.toNat ∧ size.toNat ≤ 8) := Lib.hid ⟨hL, by rw [hL]; exact bytesN_len _ _, by have := HA.out.1.sz; omega⟩
  clear hL
  go_upto_region 3 with fail
  rw [← HW.out.2.1]
  rw [show w.alloc (.cells #[.int .i64 ag, .int .i64 1, .bool true, .bool true, .int .i64 k, .int .i64 pa, .int .i64 size, .slice la1 lb1 lc1, .slice none 0 0, .slice la2 lb2 lc2] 116) = w1 from HW.out.1.symm]
  have d1 : w1.cell? ⟨g1, 1, none⟩ = some (.int .i64 1) := HW.out.2.2.2.cells.2.1
  have n1 : w1.frozen? ⟨g1, 1, none⟩ = false := by simp [World.frozen?, HW.out.2.2.2.b]
  go_upto_region 7 with fail
  obtain ⟨wk, hwk⟩ : ∃ W, W = w1.setCell ⟨g1, 1, none⟩ (.int .i64 3) := ⟨_, rfl⟩
  rw [← hwk]
  have Mk : Mod (fun q => q = g1) w1 wk := by rw [hwk]; exact (Mod.refl (fun q => q = g1) w1).setCell (.inl rfl) _
  have Bk : wk.heap[g1]? = some (.cells #[.int .i64 ag, .int .i64 3, .bool true, .bool true, .int .i64 k, .int .i64 pa, .int .i64 size, .slice la1 lb1 lc1, .slice none 0 0, .slice la2 lb2 lc2] 116 (0, 0)) := by rw [hwk]; simp [World.setCell, Array.getElem?_modify, HW.out.2.2.2.b]; (repeat' (first | rfl | refine ⟨?_, ?_⟩))
  have HWK := Lib.hid (And.intro Mk Bk)
  clear d1 n1 hwk Mk Bk
  go_wp2_with fail
  refine (rbytes4_at _ HA.out.1.sz m HA.out.2.2).mono ?_
  rintro e w2 ⟨vb, rfl, ob, x2, fb⟩
  rw [← HL.out.1, List.length_map] at ob
  obtain ⟨la3, lc3, hvb, -⟩ := ob.sl.shape
  subst hvb
  have b2 := x2.blk HWK.out.2
  have d8 : w2.cell? ⟨g1, 8, none⟩ = some (.slice none 0 0) := by simp [World.cell?, b2]
  have n8 : w2.frozen? ⟨g1, 8, none⟩ = false := by simp [World.frozen?, b2]
  have H2 := Lib.hid (And.intro ob (And.intro x2 (And.intro fb b2)))
  clear ob x2 fb b2
  go_upto_region 8 with fail
  obtain ⟨w3, hw3⟩ : ∃ W, W = w2.setCell ⟨g1, 8, none⟩ (.slice la3 L.length lc3) := ⟨_, rfl⟩
  rw [← hw3]
  have M3 : Mod (fun q => q = g1) w2 w3 := by rw [hw3]; exact (Mod.refl (fun q => q = g1) w2).setCell (.inl rfl) _
  have B3 : REvBox w3 g1 (chEv s ag k pa size m) ⟨.slice la1 lb1 lc1, .slice la3 L.length lc3, .slice la2 lb2 lc2⟩ := ⟨by rw [hw3]; simp [World.setCell, Array.getElem?_modify, H2.out.2.2.2]; (repeat' (first | rfl | refine ⟨?_, ?_⟩))⟩
  have hgw : w.heap.size ≤ g1 := by rw [HW.out.2.1]; exact Nat.le_refl _
  have hgf : ¬ z.Fp s g1 := rfp_apart HS.out.1 (Nat.le_trans HX.out.size hgw)
  have xw2 : Ext w w2 := (HW.out.2.2.1.trans' HWK.out.1 (fun q hq => .inr (by omega))).trans H2.out.2.1
  have x03 : Ext w0 w3 := (HX.out.trans xw2).trans' M3 (fun q hq => .inr (by have := HX.out.size; omega))
  have own3 : EvOwn w3 (chEv s ag k pa size m) ⟨.slice la1 lb1 lc1, .slice la3 L.length lc3, .slice la2 lb2 lc2⟩ := by
   have o1 := HO.out.1.ext xw2
   have o2 := HO.out.2.1.ext xw2
   have o3 := H2.out.1
   have p1 : ∀ q, (Value.slice la1 lb1 lc1).ownBlock = some q → ¬ q = g1 := fun q hq e => by subst e; exact o1.apart_obj H2.out.2.2.2 (by decide) hq
   have p2 : ∀ q, (Value.slice la2 lb2 lc2).ownBlock = some q → ¬ q = g1 := fun q hq e => by subst e; exact o2.apart_obj H2.out.2.2.2 (by decide) hq
   have p3 : ∀ q, (Value.slice la3 L.length lc3).ownBlock = some q → ¬ q = g1 := fun q hq e => by subst e; exact o3.apart_obj H2.out.2.2.2 (by decide) hq
   refine ⟨?_, ?_, ?_⟩
   · have h5 := o1.mod M3 p1; rw [HLB.out.1] at h5 ⊢; exact h5
   · have h5 := o3.mod M3 p3; show Own w3 _ 1 (.slice la3 L.length lc3) (bytesN size.toNat m).length ((bytesN size.toNat m).map bv); rw [← HL.out.1]; exact h5
   · have h5 := o2.mod M3 p2; rw [HLB.out.2.1] at h5 ⊢; exact h5
  have fr3 : ∀ q, EvFp ⟨.slice la1 lb1 lc1, .slice la3 L.length lc3, .slice la2 lb2 lc2⟩ q → w0.heap.size ≤ q := fun q hq => by
   rcases hq with hq | hq | hq
   · exact HO.out.2.2.1 q hq
   · have h5 := H2.out.2.2.1 q hq; have h6 := HX.out.size; have h7 := HW.out.2.2.1.size; have h8 := HWK.out.1.size; omega
   · exact HO.out.2.2.2 q hq
  have HK : Hid (ShOk (shPush s (chEv s ag k pa size m))) := Lib.hid (by
   have h8 := bread_len20 HS.out.1.ok.bk (k := k) (a := pa) (n := size)
   obtain ⟨r1, r2, r3, r4, r5, r6, r7⟩ := HA.out.1.rng HS.out.1.ok
   have h9 := HL.out
   exact HS.out.1.ok.push HA.out.2.1 ⟨r1, i64_one rfl, r2, r3, r4, breadY_i HS.out.1.ok.bk⟩ ⟨by show (breadB _ _ _ _).length ≤ 8; omega, by simp only [chEv, bytesN_len]; omega, by show (breadY _ _ _ _).length ≤ 8; omega⟩)
  have H3 := Lib.hid (And.intro x03 (And.intro own3 (And.intro (fun q hq => rfp_apart HS.out.1 (fr3 q hq)) (And.intro fr3 (And.intro B3 hgf)))))
  have HU : Hid (∀ q, EvFp ⟨.slice la1 lb1 lc1, .slice la3 L.length lc3, .slice la2 lb2 lc2⟩ q → ¬ z.U q) := Lib.hid fun q hq hu => H3.out.2.2.1 q hq (.inr (.inl hu))
  have KF : Hid (∀ w', Mod (fun q => q = z.g ∨ z.hv.ownBlock = some q) w3 w' → w'.cell? ⟨g, 1, none⟩ = some z.m → w'.cell? ⟨g, 1, none⟩ = some z.m ∧ w'.cell? ⟨g1, 0, none⟩ = some (.int .i64 ag) ∧ w'.cell? ⟨g1, 1, none⟩ = some (.int .i64 3) ∧ w'.cell? ⟨g1, 2, none⟩ = some (.bool true) ∧ w'.cell? ⟨g1, 3, none⟩ = some (.bool true) ∧ w'.cell? ⟨g1, 4, none⟩ = some (.int .i64 k) ∧ w'.cell? ⟨g1, 5, none⟩ = some (.int .i64 pa) ∧ w'.cell? ⟨g1, 6, none⟩ = some (.int .i64 size) ∧ w'.cell? ⟨g1, 7, none⟩ = some (.slice la1 lb1 lc1) ∧ w'.cell? ⟨g1, 8, none⟩ = some (.slice la3 L.length lc3) ∧ w'.cell? ⟨g1, 9, none⟩ = some (.slice la2 lb2 lc2)) := Lib.hid fun w' M hm1 => by
   have b5 := M.blk H3.out.2.2.2.2.1.b (fun h => H3.out.2.2.2.2.2 (.inl (h.elim .inl (fun h1 => .inr (.inr (.inl h1))))))
   obtain ⟨c0, c1, c2, c3, c4, c5, c6, c7, c8, c9⟩ := REvBox.cells (w := w') (g := g1) ⟨b5⟩
   exact ⟨hm1, c0, c1, c2, c3, c4, c5, c6, c7, c8, c9⟩
  have KG : Hid (∀ w' w'', Mod (fun q => q = z.g ∨ z.hv.ownBlock = some q) w3 w' → Mod z.U w' w'' → w''.cell? ⟨g, 1, none⟩ = some z.m → (fun w' => w'.cell? ⟨g, 1, none⟩ = some z.m ∧ w'.cell? ⟨g1, 0, none⟩ = some (.int .i64 ag) ∧ w'.cell? ⟨g1, 1, none⟩ = some (.int .i64 3) ∧ w'.cell? ⟨g1, 2, none⟩ = some (.bool true) ∧ w'.cell? ⟨g1, 3, none⟩ = some (.bool true) ∧ w'.cell? ⟨g1, 4, none⟩ = some (.int .i64 k) ∧ w'.cell? ⟨g1, 5, none⟩ = some (.int .i64 pa) ∧ w'.cell? ⟨g1, 6, none⟩ = some (.int .i64 size) ∧ w'.cell? ⟨g1, 7, none⟩ = some (.slice la1 lb1 lc1) ∧ w'.cell? ⟨g1, 8, none⟩ = some (.slice la3 L.length lc3) ∧ w'.cell? ⟨g1, 9, none⟩ = some (.slice la2 lb2 lc2)) w'') := Lib.hid fun w' w'' M M2 hm1 => by
   have b5 := M2.blk (M.blk H3.out.2.2.2.2.1.b (fun h => H3.out.2.2.2.2.2 (.inl (h.elim .inl (fun h1 => .inr (.inr (.inl h1))))))) (fun h => H3.out.2.2.2.2.2 (.inr (.inl h)))
   obtain ⟨c0, c1, c2, c3, c4, c5, c6, c7, c8, c9⟩ := REvBox.cells (w := w'') (g := g1) ⟨b5⟩
   exact ⟨hm1, c0, c1, c2, c3, c4, c5, c6, c7, c8, c9⟩
  clear d8 n8 hw3 M3 B3 hgf x03 own3 fr3 hgw xw2
  refine wp_region_plan [(0, true), (1, true), (2, true), (3, true), (4, true), (5, true), (6, true), (7, true), (8, true), (9, true), (10, false), (11, false)] (fun w' => w'.cell? ⟨g, 1, none⟩ = some z.m ∧ w'.cell? ⟨g1, 0, none⟩ = some (.int .i64 ag) ∧ w'.cell? ⟨g1, 1, none⟩ = some (.int .i64 3) ∧ w'.cell? ⟨g1, 2, none⟩ = some (.bool true) ∧ w'.cell? ⟨g1, 3, none⟩ = some (.bool true) ∧ w'.cell? ⟨g1, 4, none⟩ = some (.int .i64 k) ∧ w'.cell? ⟨g1, 5, none⟩ = some (.int .i64 pa) ∧ w'.cell? ⟨g1, 6, none⟩ = some (.int .i64 size) ∧ w'.cell? ⟨g1, 7, none⟩ = some (.slice la1 lb1 lc1) ∧ w'.cell? ⟨g1, 8, none⟩ = some (.slice la3 L.length lc3) ∧ w'.cell? ⟨g1, 9, none⟩ = some (.slice la2 lb2 lc2)) (by kernel_rfl) (by kernel_rfl) (by kernel_rfl) (fun _ d _ _ _ h => by cases d <;> exact h) (KF.out _ (Mod.drew (Mod.refl _ _)) ((HS.out.1.ext (Mod.drew H3.out.1)).at_cells HS.out.2).2.1) ?_
  simp only [planL, getO]
  iterate 10 (refine plan_take (v := ?_) (by rfl) (fun wS hS => ?_) ?_; rotate_left; (focus ((try dsimp only at hS); go_simp; (try with_reducible rfl); done)); (try simp only [Act.put, List.setIfInBounds_toArray, List.set_cons_zero, List.set_cons_succ]))
  refine plan_call (fun K hK => ?_)
  go_simp
  go_at_call 109; refine (rslog_at (v := ⟨.slice la1 lb1 lc1, .slice la3 L.length lc3, .slice la2 lb2 lc2⟩) HS.out.2 (HS.out.1.ext (Mod.drew H3.out.1)) (e := chEv s ag k pa size m) (H3.out.2.1.ext (Mod.drew (Mod.refl _ _))) H3.out.2.2.1 HK.out).mono ?_; rintro en w8 P4; obtain rfl := P4.1; obtain ⟨hv', h4, m4, f4⟩ := P4.2; have e4 := rnote_own P4; have H4 := Lib.hid (And.intro h4 (And.intro (Mod.trans (Mod.drew (Mod.refl _ _)) m4) (And.intro f4 e4)))
  refine hK.out _ _ (KF.out _ H4.out.2.1 (H4.out.1.at_cells HS.out.2).2.1) ?_
  clear hK K
  (try simp only [Act.put, List.setIfInBounds_toArray, List.set_cons_zero, List.set_cons_succ])
  refine plan_call (fun K hK => ?_)
  go_simp
  go_at_call 112; refine (rwrite_any _ _ _ _ H4.out.1.blks k pa _ L (by have h5 : Sl w8 (.slice la3 L.length lc3) 1 (bytesN size.toNat m).length ((bytesN size.toNat m).map bv) := H4.out.2.2.2.wr.sl; rw [← HL.out.1] at h5; exact h5) (fun q hq => HU.out q (.inr (.inl (fp_ob hq)))) (by have h6 := HL.out.2; omega) _ (rs_i64 HS.out.1.ok)).mono ?_; rintro en w9 ⟨rfl, b5, m5⟩; have H5 := Lib.hid (And.intro b5 m5)
  refine hK.out _ _ (KG.out _ _ H4.out.2.1 H5.out.2 ((H4.out.1.setM H5.out.1 H5.out.2 (fun q hq => .inl hq) (H4.out.1.ok.write k pa L (rs_i64 HS.out.1.ok))).at_cells HS.out.2).2.1) ?_
  clear hK K
  (try simp only [Act.put, List.setIfInBounds_toArray, List.set_cons_zero, List.set_cons_succ])
  refine plan_nil ?_
  have HRD : Hid (BytesAt w9 (.slice la1 lb1 lc1) (breadB s.M k pa size)) := Lib.hid (by
   have h5 := H4.out.2.2.2.rd.mod H5.out.2 (fun q hq => HU.out q (.inl hq))
   exact h5.sl)
  clear h4 m4 f4 e4 b5 m5
  go_wp2_with fail
  refine (rword_any _ _ (breadB s.M k pa size) HRD.out (by have := HLB.out; omega)).mono ?_
  rintro e w5 ⟨rfl, rfl⟩
  go_wp2_with fail
  go_ret
  refine ⟨rfl, ?_⟩
  obtain ⟨M2, F2⟩ := HS.out.1.note_fp (e := chEv s ag k pa size m) (v := ⟨.slice la1 lb1 lc1, .slice la3 L.length lc3, .slice la2 lb2 lc2⟩) H3.out.1 H3.out.2.2.2.1 H4.out.2.1 H4.out.2.2.1
  show RsTo z s (shWrite (shPush s (chEv s ag k pa size m)) k pa (bytesN size.toNat m) s.L.ev.length) w0 w5
  rw [← HL.out.1]
  exact RsTo.trans (z' := { z with hv := hv', V := evUpd z.V s.L.ev.length ⟨.slice la1 lb1 lc1, .slice la3 L.length lc3, .slice la2 lb2 lc2⟩ }) rfl M2 F2 (H4.out.1.setM_to H5.out.1 H5.out.2 (fun q hq => .inl hq) (H4.out.1.ok.write k pa L (rs_i64 HS.out.1.ok)))
end Go.Proofs.YtbhocahmhmafmaaGreat
namespace Go.Proofs.YtbhocahmhmafmaaGreat
open Go.Ren Go.RowKit
set_option linter.unusedVariables false
set_option maxRecDepth 100000 in
set_option maxHeartbeats 1600000 in
theorem rschange_any (w : World) (z : RsV) (s : Shm) (h : RsIn w z s) (ag k pa size op : Int) (m : Nat) (hm : m < 18446744073709551616) :
 Calls Tryz.prog 54 #[ptr z.g, .int .i64 ag, .int .i64 k, .int .i64 pa, .int .i64 size, .int .i64 op, .int .u64 (m : Int)] w (RsPost z s (shChange s ag k pa size op m) w) := by
 have HS := Lib.hid h
 have HM := Lib.hid hm
 obtain ⟨C, hC⟩ : ∃ C, C = shE s ag k pa size op := ⟨_, rfl⟩
 obtain ⟨g, hg⟩ : ∃ g, g = z.g := ⟨_, rfl⟩
 have HG := Lib.hid hg
 rw [← hg]
 clear hg hm
 by_cases hc : C = 0
 case neg =>
  have HR : Hid (shChange s ag k pa size op m = ((0, C), s)) := Lib.hid (by unfold shChange; rw [← hC, if_pos hc])
  have hb : (C != 0) = true := by simpa using hc
  have HC := Lib.hid hC
  rw [HR.out]
  clear hc hC h
  go_enter Tryz.func54, Tryz.ntmps54
  go_wp2_with fail
  refine (rsasks_at HG.out HS.out ag k pa size op).mono ?_
  rintro e w' ⟨rfl, rfl⟩
  rw [← HC.out]
  go_wp2_with fail
  go_ret2
  exact ⟨rfl, HS.out.to (Mod.refl _ _)⟩
 case pos =>
  have he : shE s ag k pa size op = 0 := by rw [← hC]; exact hc
  obtain ⟨hA, ho, hl⟩ := shE_0 he
  obtain ⟨i, rfl, hin⟩ := hA.ag
  obtain ⟨X, hX⟩ : ∃ X, X = shOld s (i : Int) k pa size := ⟨_, rfl⟩
  have HR : Hid (shChange s (i : Int) k pa size op m = ((X, 0), shWhole (shDrain s (i : Int)) (i : Int) k pa size (changeK (kindC size) op X m).1 true)) := Lib.hid (by
   unfold shChange; rw [he, if_neg (by simp), hX])
  have HC := Lib.hid (And.intro he (And.intro ho (And.intro hA hl)))
  have HX := Lib.hid (And.intro hX (show X < 18446744073709551616 by rw [hX]; exact wordN_64 (by have h3 := drained_ok h.ok hA; omega)))
  have HDA := Lib.hid (drained_ok h.ok hA)
  rw [HR.out]
  clear he hA ho hl h hc hC C hin hX
  go_enter Tryz.func54, Tryz.ntmps54
  go_wp2_with fail
  refine (rsasks_at HG.out HS.out (i : Int) k pa size op).mono ?_
  rintro e w' ⟨rfl, rfl⟩
  rw [HC.out.1]
  go_wp2_with fail
  refine (rsold_any _ z s HS.out HG.out i k pa size HC.out.2.2.1).mono ?_
  rintro e w1 ⟨rfl, P1⟩
  rw [← HX.out.1]
  obtain ⟨z1, e1, h1, m1, f1⟩ := P1.at_ HG.out
  have H1 := Lib.hid (And.intro e1 (And.intro h1 (And.intro m1 f1)))
  clear P1 e1 h1 m1 f1
  go_wp2_with fail
  refine (rchange_any _ size op HC.out.2.2.1.sz HC.out.2.1 X m HX.out.2 HM.out).mono ?_
  rintro e w5 ⟨rfl, rfl⟩
  go_wp2_with fail
  refine (rschanged_any _ z1 _ H1.out.2.1 H1.out.1 (i : Int) k pa size HDA.out.2.1 (by have h9 := HC.out.2.2.2; show s.L.ev.length < 1000; omega) (changeK (kindC size) op X m).1 (changeK_lt _ _ _ _) true).mono ?_
  rintro e w6 ⟨rfl, P6⟩
  have HP := Lib.hid P6
  have HY : Hid (wordN (breadB (shDrain s (i : Int)).M k pa size) = X) := Lib.hid HX.out.1.symm
  rw [HY.out]
  clear P6
  go_wp2_with fail
  go_ret2
  exact ⟨rfl, RsTo.then HG.out H1.out.1 H1.out.2.2.1 H1.out.2.2.2 HP.out⟩
theorem same_word {l : List UInt8} {size : Int} (hl : l.length = size.toNat) (want : Nat) : (decide ((wordN l : Int) = ((want % 2 ^ (8 * size.toNat) : Nat) : Int))) = (l == bytesN size.toNat want) := by
 have h1 : wordN (bytesN size.toNat want) = want % 2 ^ (8 * size.toNat) := word_bytes _ _
 by_cases h : l = bytesN size.toNat want
 · have h2 : wordN l = want % 2 ^ (8 * size.toNat) := by rw [h, h1]
   rw [h2]; simp [h]
 · have h2 : wordN l ≠ want % 2 ^ (8 * size.toNat) := fun h3 => h (by rw [← h1] at h3; exact wordN_inj _ _ (by rw [hl, bytesN_len]) h3)
   rw [beq_eq_false_iff_ne.2 h, decide_eq_false (by omega)]
set_option maxRecDepth 100000 in
set_option maxHeartbeats 1600000 in
theorem rsswap_any (w : World) (z : RsV) (s : Shm) (h : RsIn w z s) (ag k pa size : Int) (want m : Nat) (hw : want < 18446744073709551616) (hm : m < 18446744073709551616) :
 Calls Tryz.prog 55 #[ptr z.g, .int .i64 ag, .int .i64 k, .int .i64 pa, .int .i64 size, .int .u64 (want : Int), .int .u64 (m : Int)] w (RsPost z s (shSwap s ag k pa size want m) w) := by
 have HS := Lib.hid h
 have HM := Lib.hid (And.intro hw hm)
 obtain ⟨C, hC⟩ : ∃ C, C = shE s ag k pa size 1 := ⟨_, rfl⟩
 obtain ⟨g, hg⟩ : ∃ g, g = z.g := ⟨_, rfl⟩
 have HG := Lib.hid hg
 rw [← hg]
 clear hg hm hw
 by_cases hc : C = 0
 case neg =>
  have HR : Hid (shSwap s ag k pa size want m = ((0, C), s)) := Lib.hid (by unfold shSwap; rw [← hC, if_pos hc])
  have hb : (C != 0) = true := by simpa using hc
  have HC := Lib.hid hC
  rw [HR.out]
  clear hc hC h
  go_enter Tryz.func55, Tryz.ntmps55
  go_wp2_with fail
  refine (rsasks_at HG.out HS.out ag k pa size 1).mono ?_
  rintro e w' ⟨rfl, rfl⟩
  rw [← HC.out]
  go_wp2_with fail
  go_ret2
  exact ⟨rfl, HS.out.to (Mod.refl _ _)⟩
 case pos =>
  have he : shE s ag k pa size 1 = 0 := by rw [← hC]; exact hc
  obtain ⟨hA, ho, hl⟩ := shE_0 he
  obtain ⟨i, rfl, hin⟩ := hA.ag
  obtain ⟨X, hX⟩ : ∃ X, X = shOld s (i : Int) k pa size := ⟨_, rfl⟩
  obtain ⟨b, hbv⟩ : ∃ b, b = (breadB (shDrain s (i : Int)).M k pa size == bytesN size.toNat want) := ⟨_, rfl⟩
  have HR : Hid (shSwap s (i : Int) k pa size want m = ((X, 0), shWhole (shDrain s (i : Int)) (i : Int) k pa size m b)) := Lib.hid (by
   unfold shSwap; rw [he, if_neg (by simp), hX, hbv])
  have HC := Lib.hid (And.intro he (And.intro ho (And.intro hA hl)))
  have HDA := Lib.hid (drained_ok h.ok hA)
  have HX := Lib.hid (And.intro hX (show decide ((X : Int) = ((want % 2 ^ (8 * size.toNat) : Nat) : Int)) = b by rw [hX, hbv]; exact same_word HDA.out.2.2.1 want))
  have HQ : Hid (((X : Int) == (want : Int) % 2 ^ (8 * size.toNat)) = b) := Lib.hid (by rw [← HX.out.2, show ((want % 2 ^ (8 * size.toNat) : Nat) : Int) = (want : Int) % 2 ^ (8 * size.toNat) by simp]; rfl)
  rw [HR.out]
  clear he hA ho hl h hc hC C hin hX hbv
  go_enter Tryz.func55, Tryz.ntmps55
  go_wp2_with fail
  refine (rsasks_at HG.out HS.out (i : Int) k pa size 1).mono ?_
  rintro e w' ⟨rfl, rfl⟩
  rw [HC.out.1]
  go_wp2_with fail
  refine (rsold_any _ z s HS.out HG.out i k pa size HC.out.2.2.1).mono ?_
  rintro e w1 ⟨rfl, P1⟩
  rw [← HX.out.1]
  obtain ⟨z1, e1, h1, m1, f1⟩ := P1.at_ HG.out
  have H1 := Lib.hid (And.intro e1 (And.intro h1 (And.intro m1 f1)))
  clear P1 e1 h1 m1 f1
  go_wp2_with fail
  refine (rmask_any _ size HC.out.2.2.1.sz want HM.out.1).mono ?_
  rintro e w5 ⟨rfl, rfl⟩
  go_wp2_with fail
  rw [HQ.out]
  refine (rschanged_any _ z1 _ H1.out.2.1 H1.out.1 (i : Int) k pa size HDA.out.2.1 (by have h9 := HC.out.2.2.2; show s.L.ev.length < 1000; omega) m HM.out.2 b).mono ?_
  rintro e w6 ⟨rfl, P6⟩
  have HP := Lib.hid P6
  have HY : Hid (wordN (breadB (shDrain s (i : Int)).M k pa size) = X) := Lib.hid HX.out.1.symm
  rw [HY.out]
  clear P6
  go_wp2_with fail
  go_ret2
  exact ⟨rfl, RsTo.then HG.out H1.out.1 H1.out.2.2.1 H1.out.2.2.2 HP.out⟩
end Go.Proofs.YtbhocahmhmafmaaGreat
