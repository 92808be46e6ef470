/-
  The contract of (*shared.Shared).whole. No condition.
-/
import Derived.Test.YtbhocahmhmafmaaMShStore
namespace Go.Proofs.Ytbhocahmhmafmaa
open Go.Ren Go.RowKit
set_option linter.unusedVariables false
set_option maxRecDepth 100000 in
set_option maxHeartbeats 1600000 in
theorem shwhole_any (w0 w : World) (z : ShV) (s : Shm) (h : ShIn w0 z s) (x : Ext w0 w) {g : Nat} (hg : g = z.g) (ag k pa size : Int) (hA : Asked s ag k pa size) (hl : s.L.ev.length < 1000) (m : Nat) (hm : m < 18446744073709551616) (put : Bool)
    (v u : Value) (ob : Own w 5 1 v (breadB s.M k pa size).length ((breadB s.M k pa size).map bv)) (oy : Own w 3 1 u (breadY s.M k pa size).length ((breadY s.M k pa size).map iv))
    (fb : ∀ q, v.ownBlock = some q → w0.heap.size ≤ q) (fy : ∀ q, u.ownBlock = some q → w0.heap.size ≤ q) :
    Calls Try.prog 77 #[ptr g, .int .i64 ag, .int .i64 k, .int .i64 pa, .int .i64 size, v, u, .int .u64 (m : Int), .bool put] w fun e w' => e = .returned (.tuple #[]) ∧ ShTo z s (shWhole s ag k pa size m put) w0 w' := by
  obtain ⟨la1, lc1, hv1, -⟩ := ob.sl.shape
  obtain ⟨la2, lc2, hv2, -⟩ := oy.sl.shape
  subst hv1 hv2
  obtain ⟨lb1, hlb1⟩ : ∃ n, n = (breadB s.M k pa size).length := ⟨_, rfl⟩
  obtain ⟨lb2, hlb2⟩ : ∃ n, n = (breadY s.M k pa size).length := ⟨_, rfl⟩
  rw [← hlb1] at ob fb ⊢
  rw [← hlb2] at oy fy ⊢
  obtain ⟨w1, hw1⟩ : ∃ W, W = w.alloc (.cells (evArr (whEv s ag k pa size) ⟨.slice la1 lb1 lc1, .slice none 0 0, .slice la2 lb2 lc2⟩) 54) := ⟨_, rfl⟩
  obtain ⟨g1, hg1⟩ : ∃ g, g = w.heap.size := ⟨_, rfl⟩
  have x1 : Ext w w1 := by rw [hw1]; exact (Mod.refl _ _).alloc _
  have b1 : EvBox w1 g1 (whEv s ag k pa size) ⟨.slice la1 lb1 lc1, .slice none 0 0, .slice la2 lb2 lc2⟩ := by rw [hw1, hg1]; exact EvBox.of w _ _
  have HLB := Lib.hid (And.intro hlb1 hlb2)
  have HS := Lib.hid (And.intro h (And.intro x hg))
  have HO := Lib.hid (And.intro ob (And.intro oy (And.intro fb fy)))
  have HA := Lib.hid (And.intro hA (And.intro hl hm))
  have HW := Lib.hid (And.intro hw1 (And.intro hg1 (And.intro x1 b1)))
  clear h x hg ob oy fb fy hA hl hm hlb1 hlb2 hw1 hg1 x1 b1
  cases put with
  | false =>
    have HOK : Hid (ShOk (shPush s (whEv s ag k pa size))) := Lib.hid (HS.out.1.ok.whole (w := m) (put := false) HA.out.1 HA.out.2.1)
    go_enter Try.func77, Try.ntmps77
    go_upto_region 1 with fail
    rw [← HW.out.2.1]
    rw [show w.alloc (.cells #[.int .i64 ag, .int .i64 1, .bool true, .bool true, .int .i64 k, .int .i64 pa, .int .i64 size, .slice la1 lb1 lc1, .slice none 0 0, .slice la2 lb2 lc2] 54) = w1 from HW.out.1.symm]
    obtain ⟨c0, c1, c2, c3, c4, c5, c6, c7, c8, c9⟩ := HW.out.2.2.2.cells
    simp only [whEv] at c0 c1 c2 c3 c4 c5 c6
    go_wp2_with fail
    refine (shnote_at (v := ⟨.slice la1 lb1 lc1, .slice none 0 0, .slice la2 lb2 lc2⟩) HS.out.2.2 (HS.out.1.ext (HS.out.2.1.trans HW.out.2.2.1)) (e := whEv s ag k pa size) ⟨by have h5 := HO.out.1.ext HW.out.2.2.1; rw [HLB.out.1] at h5 ⊢; exact h5, Own.nil _ _ _, by have h5 := HO.out.2.1.ext HW.out.2.2.1; rw [HLB.out.2] at h5 ⊢; exact h5⟩ (fun q hq => fp_apart HS.out.1 (by rcases hq with hq | hq | hq; exact HO.out.2.2.1 q hq; cases hq; exact HO.out.2.2.2 q hq)) HOK.out).mono ?_
    rintro e w4 P4
    obtain rfl := P4.1
    have HP4 := Lib.hid P4
    clear P4 c0 c1 c2 c3 c4 c5 c6 c7 c8 c9
    go_wp2_with fail
    refine bodyPost_ret (results_none rfl _ _ _) rfl ?_
    exact ⟨rfl, HS.out.1.note_to (HS.out.2.1.trans HW.out.2.2.1) (fun q hq => by rcases hq with hq | hq | hq; exact HO.out.2.2.1 q hq; cases hq; exact HO.out.2.2.2 q hq) HP4.out⟩
  | true =>
    obtain ⟨L, hL⟩ : ∃ L, L = bytesN size.toNat m := ⟨_, rfl⟩
    have HL : Hid (L = bytesN size.toNat m ∧ L.length = size.toNat ∧ size.toNat ≤ 8) := Lib.hid ⟨hL, by rw [hL]; exact bytesN_len _ _, by have := HA.out.1.sz; omega⟩
    have HKD : Hid (bytesN (szK (kindC size)) m = L) := Lib.hid (by rw [(szK_kindC HA.out.1.sz).1, hL])
    clear hL
    go_enter Try.func77, Try.ntmps77
    go_upto_region 1 with fail
    rw [← HW.out.2.1]
    rw [show w.alloc (.cells #[.int .i64 ag, .int .i64 1, .bool true, .bool true, .int .i64 k, .int .i64 pa, .int .i64 size, .slice la1 lb1 lc1, .slice none 0 0, .slice la2 lb2 lc2] 54) = w1 from HW.out.1.symm]
    go_wp2_with fail
    refine (shkind_any _ size).mono ?_
    rintro e w5 ⟨rfl, rfl⟩
    go_wp2_with fail
    refine (ebytes_any _ (kindC size) m HA.out.2.2).mono ?_
    rintro e w2 ⟨vb, rfl, ob, x2, fb⟩
    rw [HKD.out, List.length_map] at ob
    obtain ⟨la3, lc3, hvb, -⟩ := ob.sl.shape
    subst hvb
    have b2 := x2.blk HW.out.2.2.2.b
    have d1 : w2.cell? ⟨g1, 1, none⟩ = some (.int .i64 1) := by simp [World.cell?, b2]; rfl
    have d8 : w2.cell? ⟨g1, 8, none⟩ = some (.slice none 0 0) := by simp [World.cell?, b2]
    have n1 : w2.frozen? ⟨g1, 1, none⟩ = false := by simp [World.frozen?, b2]
    have n8 : w2.frozen? ⟨g1, 8, none⟩ = false := by simp [World.frozen?, b2]
    have H2 := Lib.hid (And.intro ob (And.intro x2 (And.intro fb b2)))
    clear ob x2 fb b2
    go_upto_region 4 with fail
    obtain ⟨w3, hw3⟩ : ∃ W, W = (w2.setCell ⟨g1, 1, none⟩ (.int .i64 3)).setCell ⟨g1, 8, none⟩ (.slice la3 L.length lc3) := ⟨_, rfl⟩
    rw [← hw3]
    have M3 : Mod (fun q => q = g1) w2 w3 := by rw [hw3]; exact ((Mod.refl (fun q => q = g1) w2).setCell (.inl rfl) _).setCell (.inl rfl) _
    have B3 : EvBox w3 g1 (chEv s ag k pa size m) ⟨.slice la1 lb1 lc1, .slice la3 L.length lc3, .slice la2 lb2 lc2⟩ := ⟨by rw [hw3]; simp [World.setCell, Array.getElem?_modify, H2.out.2.2.2]; exact ⟨rfl, rfl, rfl, rfl, rfl, rfl, rfl⟩⟩
    have hgf : ¬ z.Fp s g1 := fp_apart HS.out.1 (by rw [HW.out.2.1]; exact HS.out.2.1.size)
    have x03 : Ext w0 w3 := (HS.out.2.1.trans (HW.out.2.2.1.trans H2.out.2.1)).trans' M3 (fun q hq => .inr (by have h6 := HS.out.2.1.size; have h7 := HW.out.2.1; omega))
    have own3 : EvOwn w3 (chEv s ag k pa size m) ⟨.slice la1 lb1 lc1, .slice la3 L.length lc3, .slice la2 lb2 lc2⟩ := by
      have hx := HW.out.2.2.1.trans H2.out.2.1
      have o1 := HO.out.1.ext hx
      have o2 := HO.out.2.1.ext hx
      have o3 := H2.out.1
      have p1 : ∀ q, (Value.slice la1 lb1 lc1).ownBlock = some q → ¬ q = g1 := fun q hq e => by subst e; exact o1.apart_obj H2.out.2.2.2 (by decide) hq
      have p2 : ∀ q, (Value.slice la2 lb2 lc2).ownBlock = some q → ¬ q = g1 := fun q hq e => by subst e; exact o2.apart_obj H2.out.2.2.2 (by decide) hq
      have p3 : ∀ q, (Value.slice la3 L.length lc3).ownBlock = some q → ¬ q = g1 := fun q hq e => by subst e; exact o3.apart_obj H2.out.2.2.2 (by decide) hq
      refine ⟨?_, ?_, ?_⟩
      · have h5 := o1.mod M3 p1; rw [HLB.out.1] at h5 ⊢; exact h5
      · have h5 := o3.mod M3 p3; show Own w3 _ 1 (.slice la3 L.length lc3) (bytesN size.toNat m).length ((bytesN size.toNat m).map bv); rw [← HL.out.1]; exact h5
      · have h5 := o2.mod M3 p2; rw [HLB.out.2] at h5 ⊢; exact h5
    have fr3 : ∀ q, EvFp ⟨.slice la1 lb1 lc1, .slice la3 L.length lc3, .slice la2 lb2 lc2⟩ q → w0.heap.size ≤ q := fun q hq => by
      rcases hq with hq | hq | hq
      · exact HO.out.2.2.1 q hq
      · have h5 := H2.out.2.2.1 q hq; have h6 := HS.out.2.1.size; have h7 := HW.out.2.2.1.size; omega
      · exact HO.out.2.2.2 q hq
    have HK : Hid (ShOk (shPush s (chEv s ag k pa size m))) := Lib.hid (by
      have h8 := bread_len20 HS.out.1.ok.bk (k := k) (a := pa) (n := size)
      obtain ⟨r1, r2, r3, r4, r5, r6, r7⟩ := HA.out.1.rng HS.out.1.ok
      have h9 := HL.out
      exact HS.out.1.ok.push HA.out.2.1 ⟨r1, i64_one rfl, r2, r3, r4, breadY_i HS.out.1.ok.bk⟩ ⟨by show (breadB _ _ _ _).length ≤ 8; omega, by simp only [chEv, bytesN_len]; omega, by show (breadY _ _ _ _).length ≤ 8; omega⟩)
    have H3 := Lib.hid (And.intro x03 (And.intro own3 (And.intro (fun q hq => fp_apart HS.out.1 (fr3 q hq)) (And.intro fr3 (And.intro B3 hgf)))))
    have KF : Hid (∀ w', Mod (fun q => q = z.g ∨ z.hv.ownBlock = some q) w3 w' → w'.cell? ⟨g, 1, none⟩ = some z.m → w'.cell? ⟨g, 1, none⟩ = some z.m ∧ w'.cell? ⟨g1, 0, none⟩ = some (.int .i64 ag) ∧ w'.cell? ⟨g1, 1, none⟩ = some (.int .i64 3) ∧ w'.cell? ⟨g1, 2, none⟩ = some (.bool true) ∧ w'.cell? ⟨g1, 3, none⟩ = some (.bool true) ∧ w'.cell? ⟨g1, 4, none⟩ = some (.int .i64 k) ∧ w'.cell? ⟨g1, 5, none⟩ = some (.int .i64 pa) ∧ w'.cell? ⟨g1, 6, none⟩ = some (.int .i64 size) ∧ w'.cell? ⟨g1, 7, none⟩ = some (.slice la1 lb1 lc1) ∧ w'.cell? ⟨g1, 8, none⟩ = some (.slice la3 L.length lc3) ∧ w'.cell? ⟨g1, 9, none⟩ = some (.slice la2 lb2 lc2)) := Lib.hid fun w' M hm1 => by
      have b5 := M.blk H3.out.2.2.2.2.1.b (fun h => H3.out.2.2.2.2.2 (.inl (h.elim .inl (fun h1 => .inr (.inr (.inl h1))))))
      obtain ⟨c0, c1, c2, c3, c4, c5, c6, c7, c8, c9⟩ := EvBox.cells (w := w') (g := g1) ⟨b5⟩
      exact ⟨hm1, c0, c1, c2, c3, c4, c5, c6, c7, c8, c9⟩
    have KG : Hid (∀ w' w'', Mod (fun q => q = z.g ∨ z.hv.ownBlock = some q) w3 w' → Mod z.U w' w'' → w''.cell? ⟨g, 1, none⟩ = some z.m → (fun w' => w'.cell? ⟨g, 1, none⟩ = some z.m ∧ w'.cell? ⟨g1, 0, none⟩ = some (.int .i64 ag) ∧ w'.cell? ⟨g1, 1, none⟩ = some (.int .i64 3) ∧ w'.cell? ⟨g1, 2, none⟩ = some (.bool true) ∧ w'.cell? ⟨g1, 3, none⟩ = some (.bool true) ∧ w'.cell? ⟨g1, 4, none⟩ = some (.int .i64 k) ∧ w'.cell? ⟨g1, 5, none⟩ = some (.int .i64 pa) ∧ w'.cell? ⟨g1, 6, none⟩ = some (.int .i64 size) ∧ w'.cell? ⟨g1, 7, none⟩ = some (.slice la1 lb1 lc1) ∧ w'.cell? ⟨g1, 8, none⟩ = some (.slice la3 L.length lc3) ∧ w'.cell? ⟨g1, 9, none⟩ = some (.slice la2 lb2 lc2)) w'') := Lib.hid fun w' w'' M M2 hm1 => by
      have b5 := M2.blk (M.blk H3.out.2.2.2.2.1.b (fun h => H3.out.2.2.2.2.2 (.inl (h.elim .inl (fun h1 => .inr (.inr (.inl h1))))))) (fun h => H3.out.2.2.2.2.2 (.inr (.inl h)))
      obtain ⟨c0, c1, c2, c3, c4, c5, c6, c7, c8, c9⟩ := EvBox.cells (w := w'') (g := g1) ⟨b5⟩
      exact ⟨hm1, c0, c1, c2, c3, c4, c5, c6, c7, c8, c9⟩
    clear d1 d8 n1 n8 hw3 M3 B3 hgf x03 own3 fr3
    refine wp_region_plan [(0, true), (1, true), (2, true), (3, true), (4, true), (5, true), (6, true), (7, true), (8, true), (9, true), (10, false), (11, false)] (fun w' => w'.cell? ⟨g, 1, none⟩ = some z.m ∧ w'.cell? ⟨g1, 0, none⟩ = some (.int .i64 ag) ∧ w'.cell? ⟨g1, 1, none⟩ = some (.int .i64 3) ∧ w'.cell? ⟨g1, 2, none⟩ = some (.bool true) ∧ w'.cell? ⟨g1, 3, none⟩ = some (.bool true) ∧ w'.cell? ⟨g1, 4, none⟩ = some (.int .i64 k) ∧ w'.cell? ⟨g1, 5, none⟩ = some (.int .i64 pa) ∧ w'.cell? ⟨g1, 6, none⟩ = some (.int .i64 size) ∧ w'.cell? ⟨g1, 7, none⟩ = some (.slice la1 lb1 lc1) ∧ w'.cell? ⟨g1, 8, none⟩ = some (.slice la3 L.length lc3) ∧ w'.cell? ⟨g1, 9, none⟩ = some (.slice la2 lb2 lc2)) (by kernel_rfl) (by kernel_rfl) (by kernel_rfl) (fun _ d _ _ _ h => by cases d <;> exact h) (KF.out _ (Mod.drew (Mod.refl _ _)) ((HS.out.1.ext (Mod.drew H3.out.1)).at_cells HS.out.2.2).2.1) ?_
    simp only [planL, getO]
    iterate 10 (refine plan_take (v := ?_) (by rfl) (fun wS hS => ?_) ?_; rotate_left; (focus ((try dsimp only at hS); go_simp; (try with_reducible rfl); done)); (try simp only [Act.put, List.setIfInBounds_toArray, List.set_cons_zero, List.set_cons_succ]))
    refine plan_call (fun K hK => ?_)
    go_simp
    go_at_call 30; refine (shnote_at (v := ⟨.slice la1 lb1 lc1, .slice la3 L.length lc3, .slice la2 lb2 lc2⟩) HS.out.2.2 (HS.out.1.ext (Mod.drew H3.out.1)) (e := chEv s ag k pa size m) (H3.out.2.1.ext (Mod.drew (Mod.refl _ _))) H3.out.2.2.1 HK.out).mono ?_; rintro en w4 P4; obtain rfl := P4.1; obtain ⟨hv', h4, m4, f4⟩ := P4.2; have e4 := note_own P4; have H4 := Lib.hid (And.intro h4 (And.intro (Mod.trans (Mod.drew (Mod.refl _ _)) m4) (And.intro f4 e4)))
    refine hK.out _ _ (KF.out _ H4.out.2.1 (H4.out.1.at_cells HS.out.2.2).2.1) ?_
    clear hK K
    (try simp only [Act.put, List.setIfInBounds_toArray, List.set_cons_zero, List.set_cons_succ])
    refine plan_call (fun K hK => ?_)
    go_simp
    go_at_call 32; refine (write_any _ _ _ _ H4.out.1.blks k pa _ L (by have h5 : Sl w4 (.slice la3 L.length lc3) 1 (bytesN size.toNat m).length ((bytesN size.toNat m).map bv) := H4.out.2.2.2.wr.sl; rw [← HL.out.1] at h5; exact h5) (by have h6 := HL.out.2; omega) _ (i64_len HS.out.1.ok)).mono ?_; rintro en w5 ⟨rfl, b5, m5⟩; have H5 := Lib.hid (And.intro b5 m5)
    refine hK.out _ _ (KG.out _ _ H4.out.2.1 H5.out.2 ((H4.out.1.setM H5.out.1 H5.out.2 (fun q hq => .inl hq) (H4.out.1.ok.write k pa L (i64_len HS.out.1.ok))).at_cells HS.out.2.2).2.1) ?_
    clear hK K
    (try simp only [Act.put, List.setIfInBounds_toArray, List.set_cons_zero, List.set_cons_succ])
    refine plan_nil ?_
    refine bodyPost_end (results_none rfl _ _ _) rfl ?_
    refine ⟨rfl, ?_⟩
    obtain ⟨M2, F2⟩ := HS.out.1.note_fp (e := chEv s ag k pa size m) (v := ⟨.slice la1 lb1 lc1, .slice la3 L.length lc3, .slice la2 lb2 lc2⟩) H3.out.1 H3.out.2.2.2.1 H4.out.2.1 H4.out.2.2.1
    show ShTo z s (shWrite (shPush s (chEv s ag k pa size m)) k pa (bytesN size.toNat m) s.L.ev.length) w0 w5
    rw [← HL.out.1]
    exact ShTo.trans (z' := { z with hv := hv', V := evUpd z.V s.L.ev.length ⟨.slice la1 lb1 lc1, .slice la3 L.length lc3, .slice la2 lb2 lc2⟩ }) rfl M2 F2 (H4.out.1.setM_to H5.out.1 H5.out.2 (fun q hq => .inl hq) (H4.out.1.ok.write k pa L (i64_len HS.out.1.ok)))
end Go.Proofs.Ytbhocahmhmafmaa
