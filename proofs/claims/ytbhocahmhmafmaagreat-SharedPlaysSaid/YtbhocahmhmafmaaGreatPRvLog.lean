/-
  The contract of renlaw14.Log: a log for the document. No condition.
-/
import Derived.Test.YtbhocahmhmafmaaGreatPRvAt
import Derived.Test.YtbhocahmhmafmaaGreatPEvCopied
namespace Go.Proofs.YtbhocahmhmafmaaGreat
open Go.Ren Go.RowKit
set_option linter.unusedVariables false
theorem IRe : EInfo Tryz.prog 55 116 10 120 (.agg #[.int .i64 0, .int .i64 0, .bool false, .bool false, .int .i64 0, .int .i64 0, .int .i64 0, .slice none 0 0, .slice none 0 0, .slice none 0 0]) := ⟨Tryz.underlying55, by kernel_rfl, rfl, by decide⟩
structure RGrow (w0 : World) (g3 : Nat) (L : Lg) (V : Nat → Vs) (k : Nat) (hv : Value) (wr : World) : Prop where
 box : wr.heap[g3]? = some (.cells #[hv, .slice none 0 0] 57 (0, 0))
 row : Own wr 116 10 hv k (flat 10 k (fun i j => evcell (evn L.ev i) (V i) j))
 fr : ∀ q, hv.ownBlock = some q → w0.heap.size ≤ q
 md : Mod (fun q => q = g3) w0 wr
theorem RGrow.push {w0 wr w8 w9 : World} {g3 k : Nat} {L : Lg} {V : Nat → Vs} {hv hv9 : Value} (h : RGrow w0 g3 L V k hv wr) (x8 : Ext wr w8) (M9 : Mod (fun q => hv.ownBlock = some q) w8 w9)
 (ol : Own w9 116 10 hv9 (k + 1) (flat 10 k (fun i j => evcell (evn L.ev i) (V i) j) ++ (evArr (evn L.ev k) (V k)).toList)) (fr9 : ∀ q, hv9.ownBlock = some q → hv.ownBlock = some q ∨ w8.heap.size ≤ q) :
 RGrow w0 g3 L V (k + 1) hv9 (w9.setCell ⟨g3, 0, none⟩ hv9) := by
 have z8 := x8.blk h.box
 have ho8 := h.row.ext x8
 have z9 := M9.blk z8 (fun k => ho8.apart_obj z8 (by decide) k)
 have Ms : Mod (fun q => q = g3) w9 (w9.setCell ⟨g3, 0, none⟩ hv9) := Mod.setCell (F := fun q => q = g3) (Mod.refl _ _) (.inl rfl) _
 refine ⟨by simp [World.setCell, Array.getElem?_modify, z9], ?_, fun q hq => ?_, ((h.md.ext x8).trans' M9 (fun q hq => .inr (h.fr q hq))).trans' Ms (fun q hq => .inl hq)⟩
 · have e1 := evrow_snoc (fun i => evn L.ev i) V k (V k)
   have e3 : evUpd V k (V k) = V := by funext i; unfold evUpd; split <;> simp_all
   rw [e3] at e1
   rw [e1]
   exact ol.mod Ms (fun q hq hl => by subst hl; exact ol.apart_obj z9 (by decide) hq)
 · rcases fr9 q hq with k | k
   · exact h.fr q k
   · have h1 := h.md.size
     have h2 := x8.size
     omega
def RLogPost (vp : Value) (V : Nat → Vs) (L : Lg) (w : World) (r : Ending) (w' : World) : Prop := ∃ hv, r = .returned (.agg #[hv, vp]) ∧ LogIn w' hv vp V L ∧ Ext w w'
set_option maxRecDepth 100000 in
set_option maxHeartbeats 1600000 in
theorem rlog_any (w : World) (ve vp : Value) (V : Nat → Vs) (L : Lg) (h : LogIn w ve vp V L) (hl : L.ev.length ≤ 1000) :
 Calls Tryz.prog 23 #[.agg #[ve, vp]] w (RLogPost vp V L w) := by
 obtain ⟨ap, cp, hvp, -⟩ := h.prow.shape
 subst hvp
 have q1 := Sl.cells_eq h.row
 have s1 := Sl.run_st (P := Tryz.prog) h.row
 have l1 := h.row.run_len (P := Tryz.prog) IEv.und 3
 have HI := Lib.hid (h.row.run_idx (P := Tryz.prog) IEv.und IEv.size .i64)
 have hle : (L.ev.length : Int) ≤ 1000 := by omega
 obtain ⟨g, hg⟩ : ∃ g, g = w.heap.size := ⟨_, rfl⟩
 obtain ⟨w0, hw0⟩ : ∃ w0, w0 = ((w.alloc (.cells #[ve, (.slice ap L.pr.length cp)] 48)).alloc (.cells #[.slice none 0 0, .slice none 0 0] 57)).alloc (.cells #[.slice none 0 0, .slice none 0 0] 57) := ⟨_, rfl⟩
 have x0 : Ext w w0 := by rw [hw0]; exact (((Mod.refl _ _).alloc _).alloc _).alloc _
 have b0 : w0.heap[g]? = some (.cells #[ve, (.slice ap L.pr.length cp)] 48 (0, 0)) := by rw [hw0, hg]; simp only [heap_alloc_if, World.size_alloc]; repeat (first | rfl | rw [if_pos (by omega)] | rw [if_neg (by omega)])
 have b1 : w0.heap[g + 1]? = some (.cells #[.slice none 0 0, .slice none 0 0] 57 (0, 0)) := by rw [hw0, hg]; simp only [heap_alloc_if, World.size_alloc]; repeat (first | rfl | rw [if_pos (by omega)] | rw [if_neg (by omega)])
 have b2 : w0.heap[g + 1 + 1]? = some (.cells #[.slice none 0 0, .slice none 0 0] 57 (0, 0)) := by rw [hw0, hg]; simp only [heap_alloc_if, World.size_alloc]; repeat (first | rfl | rw [if_pos (by omega)] | rw [if_neg (by omega)])
 have HW := Lib.hid (And.intro hw0 (And.intro hg (And.intro x0 (And.intro b0 b1))))
 have HLI := Lib.hid h
 have HG0 : Hid (RGrow w0 (g + 1 + 1) L V 0 (.slice none 0 0) w0) := Lib.hid ⟨b2, Own.nil _ _ _, fun q hq => (by cases hq), Mod.refl _ _⟩
 clear hw0 hg x0 b0 b1 b2 h
 go_enter Tryz.func23, Tryz.ntmps23
 go_upto_region 2 with fail
 rw [← HW.out.1, ← HW.out.2.1]
 clear s1
 go_wp2_with fail
 go_loopw [4] (fun s wr => ∃ (k : Nat) (hv : Value), k ≤ L.ev.length ∧ s = .int .i64 (k : Int) ∧ RGrow w0 (g + 1 + 1) L V k hv wr) (fun s _ => L.ev.length - (intOf s).toNat)
 case atStart => exact ⟨0, _, Nat.zero_le _, rfl, HG0.out⟩
 case round =>
  obtain ⟨k, hv, hk, rfl, hgr⟩ := hrel
  have HG := Lib.hid hgr
  have hxr : Ext w wr := HW.out.2.2.1.trans' hgr.md (fun q hq => .inr (by have := HW.out.2.1; omega))
  have HXR := Lib.hid hxr
  have hbr : wr.heap[g]? = some (.cells #[ve, (.slice ap L.pr.length cp)] 48 (0, 0)) := hgr.md.blk HW.out.2.2.2.1 (by omega)
  have hcg : wr.cell? ⟨g, 0, none⟩ = some ve := by simp [World.cell?, hbr]
  by_cases hlt : k < L.ev.length
  · have hlt' : (k : Int) < (L.ev.length : Int) := by omega
    have i0 := HI.out k hlt
    obtain ⟨e, he⟩ : ∃ e, e = evn L.ev k := ⟨_, rfl⟩
    obtain ⟨v, hv'⟩ : ∃ v, v = V k := ⟨_, rfl⟩
    obtain ⟨A, hA⟩ : ∃ A, A = at_ ve (k * 10) := ⟨_, rfl⟩
    rw [← hA] at i0
    have hea : EvAt w e v := by rw [he, hv']; exact HLI.out.ev k hlt
    obtain ⟨k1, k2, k3, t1, t2, t3⟩ := ev_facts hea
    have HVV := Lib.hid hea
    have HEV : Hid (∀ w', Ext wr w' → EvAt w' e v) := Lib.hid fun w' x => hea.ext (hxr.trans x)
    have KM : Hid (∀ w', Mod (fun q => hv.ownBlock = some q) wr w' → (w'.cell? ⟨g + 1 + 1, 0, none⟩ = some hv ∧ w'.cell? ⟨g, 0, none⟩ = some ve ∧ w'.cell? A = some (.int .i64 (e).ag) ∧ w'.cell? ⟨A.block, A.off + 1, none⟩ = some (.int .i64 (e).kind) ∧ w'.cell? ⟨A.block, A.off + 2, none⟩ = some (.bool (e).seq) ∧ w'.cell? ⟨A.block, A.off + 3, none⟩ = some (.bool (e).nt) ∧ w'.cell? ⟨A.block, A.off + 4, none⟩ = some (.int .i64 (e).blk) ∧ w'.cell? ⟨A.block, A.off + 5, none⟩ = some (.int .i64 (e).at_) ∧ w'.cell? ⟨A.block, A.off + 6, none⟩ = some (.int .i64 (e).size) ∧ w'.cell? ⟨A.block, A.off + 7, none⟩ = some v.r ∧ w'.cell? ⟨A.block, A.off + 8, none⟩ = some v.w ∧ w'.cell? ⟨A.block, A.off + 9, none⟩ = some v.f) ∧ w'.frozen? ⟨g + 1 + 1, 0, none⟩ = false) := Lib.hid fun w' M => by
     have h5 := M.blk hgr.box (fun h => hgr.row.apart_obj hgr.box (by decide) h)
     have h6 := M.blk hbr (fun h => hgr.row.apart_obj hbr (by decide) h)
     have hx : Ext w w' := hxr.trans' M (fun q hq => .inr (by have h7 := hgr.fr q hq; have h8 := HW.out.2.2.1.size; omega))
     have hc := (HLI.out.ext hx).cells hlt
     rw [← he, ← hv', ← hA] at hc
     exact ⟨⟨by simp [World.cell?, h5], by simp [World.cell?, h6], hc⟩, by simp [World.frozen?, h5]⟩
    have HEQ := Lib.hid (And.intro he hv')
    clear hea he hv' hA hgr hxr hbr
    go_upto_region 5 with fail
    clear hcg
    refine wp_region_planL [11] [(0, 3), (1, 0), (2, 0), (3, 0), (4, 0), (5, 0), (6, 0), (7, 1), (8, 1), (9, 1), (10, 3), (11, 2)] (fun w' => w'.cell? ⟨g + 1 + 1, 0, none⟩ = some hv ∧ w'.cell? ⟨g, 0, none⟩ = some ve ∧ w'.cell? A = some (.int .i64 (e).ag) ∧ w'.cell? ⟨A.block, A.off + 1, none⟩ = some (.int .i64 (e).kind) ∧ w'.cell? ⟨A.block, A.off + 2, none⟩ = some (.bool (e).seq) ∧ w'.cell? ⟨A.block, A.off + 3, none⟩ = some (.bool (e).nt) ∧ w'.cell? ⟨A.block, A.off + 4, none⟩ = some (.int .i64 (e).blk) ∧ w'.cell? ⟨A.block, A.off + 5, none⟩ = some (.int .i64 (e).at_) ∧ w'.cell? ⟨A.block, A.off + 6, none⟩ = some (.int .i64 (e).size) ∧ w'.cell? ⟨A.block, A.off + 7, none⟩ = some v.r ∧ w'.cell? ⟨A.block, A.off + 8, none⟩ = some v.w ∧ w'.cell? ⟨A.block, A.off + 9, none⟩ = some v.f) (by kernel_rfl) (by kernel_rfl) (by kernel_rfl) (fun _ d _ _ _ h => by cases d <;> exact h) ((KM.out _ (Ext.mod (Mod.drew (Mod.refl _ _)) _)).1) ?_
    simp only [planLL, getO]
    (refine planL_pure (v := ?_) (by rfl) (fun wS => ?_) ?_; rotate_left; (focus (go_simp; (try with_reducible rfl); done)); (try simp only [Act.put, List.setIfInBounds_toArray, List.set_cons_zero, List.set_cons_succ]))
    iterate 6 (refine planL_take (v := ?_) (by rfl) (fun wS hS => ?_) ?_; rotate_left; (focus ((try dsimp only at hS); go_simp; (try with_reducible rfl); done)); (try simp only [Act.put, List.setIfInBounds_toArray, List.set_cons_zero, List.set_cons_succ]))
    refine planL_call (fun K hK => ?_)
    go_simp
    go_at_call 73; refine (event_any _ e v (HEV.out _ (Mod.drew (Mod.refl _ _)))).mono ?_; rintro en w8 ⟨rfl, y8⟩; have E8 : Ext wr w8 := Mod.trans (Mod.drew (Mod.refl _ _)) y8
    refine hK.out _ _ ((KM.out _ (Ext.mod E8 _)).1) ?_
    clear hK K
    (try simp only [Act.put, List.setIfInBounds_toArray, List.set_cons_zero, List.set_cons_succ])
    refine planL_call (fun K hK => ?_)
    go_simp
    skip
    refine hK.out _ _ ((KM.out _ (Ext.mod (E8.alloc _) _)).1) ?_
    clear hK K
    (try simp only [Act.put, List.setIfInBounds_toArray, List.set_cons_zero, List.set_cons_succ])
    refine planL_call (fun K hK => ?_)
    refine step_app IRe rfl (.tmp 13) (.tmp 20) rfl (HG.out.row.ext (E8.alloc _)) (built_sl (n := 1) (g := w8.heap.size) (e := 116) (cs := evArr e v) (by simp only [heap_alloc_if, if_true]; (try rfl)) rfl (by simp only [maxLen]; omega)) (one10 (Sl.one HVV.out.rd) (Sl.one HVV.out.wr) (Sl.one HVV.out.fr.sl)) (by simp [Act.eval]) (by simp [Act.eval]; (try rfl)) (by omega) (by simp only [maxLen]; omega) ?_; intro hv9 w9 ol9 gr9 fr9 nn9; obtain ⟨la9, lc9, hlv9, _⟩ := ol9.sl.shape; subst hlv9; have M9 : Mod (fun q => hv.ownBlock = some q) w8 w9 := Mod.grown (Mod.alloc (Mod.refl _ _) _) gr9 (fun q h => .inl h); have MM : Mod (fun q => hv.ownBlock = some q) wr w9 := (Ext.mod E8 _).trans M9; obtain ⟨⟨e50, -⟩, ef5⟩ := KM.out w9 MM
    refine hK.out _ _ ((KM.out _ MM).1) ?_
    clear hK K
    (try simp only [Act.put, List.setIfInBounds_toArray, List.set_cons_zero, List.set_cons_succ])
    (refine planL_pure (v := ?_) (by rfl) (fun wS => ?_) ?_; rotate_left; (focus (go_simp; (try with_reducible rfl); done)); (try simp only [Act.put, List.setIfInBounds_toArray, List.set_cons_zero, List.set_cons_succ]))
    refine planL_late (fun K hK => ?_)
    go_simp
    refine hK.out _ _ ?_
    clear hK K
    (try simp only [Act.put, List.setIfInBounds_toArray, List.set_cons_zero, List.set_cons_succ])
    refine planL_nil ?_
    have H9 := Lib.hid (And.intro ol9 (And.intro fr9 (And.intro M9 E8)))
    clear ol9 fr9 M9 MM e50 ef5 gr9 nn9 E8 y8
    go_wp2_with fail
    go_roundw
    case rel =>
     obtain ⟨ol9, fr9, M9, E8⟩ := H9.out
     have P := HG.out.push E8 M9 (by rw [← HEQ.out.1, ← HEQ.out.2]; exact ol9) (fun q hq => by
      rcases fr9 q hq with k | k
      · exact .inl k
      · simp only [World.size_alloc] at k; exact .inr (by omega))
     exact ⟨k + 1, _, by omega, by go_num, P⟩
    case measure => simp [intOf]; omega
  · have hlt' : ¬ (k : Int) < (L.ev.length : Int) := by omega
    have hkn : k = L.ev.length := by omega
    have c1 : wr.cell? ⟨g, 1, none⟩ = some (.slice ap L.pr.length cp) := by simp [World.cell?, hbr]
    have b2 := hgr.box
    have b1 : wr.heap[g + 1]? = some (.cells #[.slice none 0 0, .slice none 0 0] 57 (0, 0)) := hgr.md.blk HW.out.2.2.2.2 (by omega)
    have d0 : wr.cell? ⟨g + 1 + 1, 0, none⟩ = some hv := by simp [World.cell?, b2]
    have d1 : wr.cell? ⟨g + 1 + 1, 1, none⟩ = some (.slice none 0 0) := by simp [World.cell?, b2]
    have f1 : wr.frozen? ⟨g + 1 + 1, 1, none⟩ = false := by simp [World.frozen?, b2]
    have hvs := Sl.cells_eq hgr.row.sl
    have HBB := Lib.hid (And.intro b1 (And.intro b2 (And.intro hxr hgr)))
    clear hgr hxr hbr b1 b2
    go_upto_region 7 with fail
    obtain ⟨w7, hw7⟩ : ∃ W, W = wr.setCell ⟨g + 1 + 1, 1, none⟩ (.slice ap L.pr.length cp) := ⟨_, rfl⟩
    rw [← hw7]
    have M7 : Mod (fun q => q = g + 1 + 1) wr w7 := by rw [hw7]; exact Mod.setCell (F := fun q => q = g + 1 + 1) (Mod.refl _ _) (.inl rfl) _
    have e1 : w7.heap[g + 1]? = some (.cells #[.slice none 0 0, .slice none 0 0] 57 (0, 0)) := M7.blk HBB.out.1 (by omega)
    have e2 : w7.heap[g + 1 + 1]? = some (.cells #[hv, (.slice ap L.pr.length cp)] 57 (0, 0)) := by rw [hw7]; simp [World.setCell, Array.getElem?_modify, HBB.out.2.1]
    have r0 : w7.cell? ⟨g + 1 + 1, 0, none⟩ = some hv := by simp [World.cell?, e2]
    have r1 : w7.cell? ⟨g + 1 + 1, 1, none⟩ = some (.slice ap L.pr.length cp) := by simp [World.cell?, e2]
    have HB7 := Lib.hid (And.intro e1 (And.intro M7 hw7))
    have hone1 : hv.oneCell' = true := Sl.one HBB.out.2.2.2.row.sl
    have hone2 : (Value.slice ap L.pr.length cp).oneCell' = true := Sl.one HLI.out.prow
    have HON := Lib.hid (And.intro hone1 hone2)
    clear e1 e2 M7 hw7 d0 d1 f1 hcg c1 hone1 hone2
    go_wp2_with (refine wpList_store_row rfl 57 (.tmp 2) (.tmp 26) rfl (g + 1) #[hv, (.slice ap L.pr.length cp)] rfl rfl 57 _ HB7.out.1 (by kernel_rfl) rfl (by simp [HON.out.1, HON.out.2]) ?_)
    have hb := setRow_heap w7 (g + 1) _ #[hv, .slice ap L.pr.length cp] _ _ HB7.out.1
    refine bodyPost_ret (results_cell_row rfl _ _ (g + 1) 57 _ (0, 0) _ rfl hb Tryz.underlying57 rfl (by kernel_rfl)) rfl ?_
    obtain ⟨e1, M7, hw7⟩ := HB7.out
    obtain ⟨_, _, hxr, hgr⟩ := HBB.out
    have M8 : Mod (fun k => k = g + 1) w7 (w7.setRow (g + 1) #[hv, .slice ap L.pr.length cp]) := ⟨rfl, rfl, rfl, by simp [World.setRow], fun k _ hk => setRow_other w7 (g + 1) k _ hk⟩
    have hxz : Ext w (w7.setRow (g + 1) #[hv, .slice ap L.pr.length cp]) := (hxr.trans' M7 (fun q hq => .inr (by have := HW.out.2.1; omega))).trans' M8 (fun q hq => .inr (by have := HW.out.2.1; omega))
    have h7 := hgr.row.mod M7 (fun q hq hl => by subst hl; exact hgr.row.apart_obj hgr.box (by decide) hq)
    have h8 := h7.mod M8 (fun q hq hl => by subst hl; exact h7.apart_obj e1 (by decide) hq)
    exact ⟨hv, rfl, ⟨by rw [← hkn]; exact h8.sl, fun i hi => (HLI.out.ev i hi).ext hxz, (HLI.out.ext hxz).prow, HLI.out.pok⟩, hxz⟩
end Go.Proofs.YtbhocahmhmafmaaGreat
