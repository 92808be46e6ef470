/-
  EventMore: the contract of renlaw14.more. No condition.
-/
import Derived.Test.YtkibdabbjbcboaaEvHeads
namespace Go.Ren
open Go.Proofs.Ytkibdabbjbcboaa
def moreL (L : Lg) (e : Ev) : Lg := ⟨(headL L L.ev.length).ev ++ [e], (headL L L.ev.length).pr⟩
end Go.Ren
namespace Go.Proofs.Ytkibdabbjbcboaa
open Go.Ren Go.RowKit
set_option linter.unusedVariables false

/-- An event more behind a log's own row. -/
theorem log_push {w w' : World} {hv pv hv' : Value} {V : Nat → Vs} {L : Lg} {e : Ev} {v : Vs} (h : LogIn w hv pv V L) (he : EvAt w e v) {F : Nat → Prop} (M : Mod F w w') (hp : ∀ k, fp pv k → ¬ F k) (hf : ∀ i k, i < L.ev.length → (fp (V i).r k ∨ fp (V i).w k ∨ fp (V i).f k) → ¬ F k) (hf2 : ∀ k, (fp v.r k ∨ fp v.w k ∨ fp v.f k) → ¬ F k)
    (o : Sl w' hv' 10 (L.ev.length + 1) (flat 10 L.ev.length (fun i j => evcell (evn L.ev i) (V i) j) ++ (evArr e v).toList)) : LogIn w' hv' pv (evUpd V L.ev.length v) ⟨L.ev ++ [e], L.pr⟩ := by
  have hev : ∀ i, i < L.ev.length → evn (L.ev ++ [e]) i = evn L.ev i := fun i hi => by simp [evn, List.getElem?_append_left hi]
  have hev2 : evn (L.ev ++ [e]) L.ev.length = e := by simp [evn]
  refine ⟨?_, fun i hi => ?_, h.prow.mod (by decide) M hp, h.pok⟩
  · show Sl w' hv' 10 (L.ev ++ [e]).length (flat 10 (L.ev ++ [e]).length (fun i j => evcell (evn (L.ev ++ [e]) i) (evUpd V L.ev.length v i) j))
    rw [List.length_append, List.length_singleton]
    have e1 := evrow_snoc (fun i => evn (L.ev ++ [e]) i) V L.ev.length v
    have e2 : flat 10 L.ev.length (fun i j => evcell (evn (L.ev ++ [e]) i) (V i) j) = flat 10 L.ev.length (fun i j => evcell (evn L.ev i) (V i) j) := flat_congr fun i j hi _ => by rw [hev i hi]
    rw [hev2, e2] at e1
    rw [e1]; exact o
  · have hi' : i < L.ev.length + 1 := by simpa using hi
    by_cases e0 : i = L.ev.length
    · subst e0
      simp only [hev2, evUpd, if_true]
      exact ⟨he.rd.mod M fun k hk => hf2 k (.inl hk), he.wr.mod M fun k hk => hf2 k (.inr (.inl hk)), ⟨he.fr.sl.mod (by decide) M fun k hk => hf2 k (.inr (.inr hk)), he.fr.ok⟩, he.ok⟩
    · have hl : i < L.ev.length := by omega
      have e2 : evUpd V L.ev.length v i = V i := by simp [evUpd, e0]
      show EvAt w' (evn (L.ev ++ [e]) i) (evUpd V L.ev.length v i)
      rw [hev i hl, e2]
      have g := h.ev i hl
      exact ⟨g.rd.mod M fun k hk => hf i k hl (.inl hk), g.wr.mod M fun k hk => hf i k hl (.inr (.inl hk)), ⟨g.fr.sl.mod (by decide) M fun k hk => hf i k hl (.inr (.inr hk)), g.fr.ok⟩, g.ok⟩

def MorePost (K : Lg) (w : World) (r : Ending) (w' : World) : Prop := ∃ hv pv V', r = .returned (.agg #[hv, pv]) ∧ LogIn w' hv pv V' K ∧ Ext w w'
set_option maxRecDepth 100000 in
set_option maxHeartbeats 1600000 in
theorem more_any (w : World) (ve vp : Value) (V : Nat → Vs) (L : Lg) (h : LogIn w ve vp V L) (hsm : Small L) (e : Ev) (v : Vs) (he : EvAt w e v) :
    Calls Try.prog 45 #[.agg #[ve, vp], evV e v] w (MorePost (moreL L e) w) := by
  have q1 := Sl.cells_eq h.row
  have q2 := Sl.cells_eq h.prow
  have s1 := Sl.run_st (P := Try.prog) h.row
  have s2 := Sl.run_st (P := Try.prog) h.prow
  obtain ⟨k1, k2, k3, t1, t2, t3⟩ := ev_facts he
  have l1 := h.row.run_len (P := Try.prog) IEv.und 3
  obtain ⟨g, hg⟩ : ∃ g, g = w.heap.size := ⟨_, rfl⟩
  obtain ⟨w0, hw0⟩ : ∃ w0, w0 = ((w.alloc (.cells #[ve, vp] 25)).alloc (.cells (evArr e v) 46)).alloc (.cells #[.slice none 0 0, .slice none 0 0] 25) := ⟨_, rfl⟩
  have x0 : Ext w w0 := by rw [hw0]; exact (((Mod.refl _ _).alloc _).alloc _).alloc _
  have b0 : LogBox w0 g ve vp := ⟨by rw [hw0, hg]; simp only [heap_alloc_if, World.size_alloc]; repeat (first | rfl | rw [if_pos (by omega)] | rw [if_neg (by omega)])⟩
  have b1 : EvBox w0 (g + 1) e v := ⟨by rw [hw0, hg]; simp only [heap_alloc_if, World.size_alloc]; repeat (first | rfl | rw [if_pos (by omega)] | rw [if_neg (by omega)])⟩
  have b2 : w0.heap[g + 1 + 1]? = some (.cells #[.slice none 0 0, .slice none 0 0] 25 (0, 0)) := by rw [hw0, hg]; simp only [heap_alloc_if, World.size_alloc]; repeat (first | rfl | rw [if_pos (by omega)] | rw [if_neg (by omega)])
  have HW := Lib.hid (And.intro hw0 (And.intro hg (And.intro x0 b2)))
  have KE : Hid (∀ w', Ext w0 w' → LogIn w' ve vp V L ∧ LogBox w' g ve vp ∧ EvAt w' e v ∧ EvBox w' (g + 1) e v) := Lib.hid fun w' x => ⟨h.ext (x0.trans x), b0.ext x, he.ext (x0.trans x), b1.ext x⟩
  have HS := Lib.hid hsm
  have HV := Lib.hid he
  have hm : (L.ev.length : Int) ≤ 1000 := by have := hsm.ev; omega
  obtain ⟨c0, c1⟩ := b0.cells
  clear hw0 hg x0 b0 b1 b2 h hsm he
  unfold evV
  go_enter Try.func45, Try.ntmps45
  go_upto_region 1 with fail
  rw [← HW.out.1, ← HW.out.2.1]
  clear s1 s2 t1 t2 t3
  go_wp2_with fail
  refine (head_any _ ve vp V L (KE.out _ (Mod.refl _ _)).1 L.ev.length (i64_len (KE.out _ (Mod.refl _ _)).1.row) HS.out).mono ?_
  rintro r w3 ⟨hv, pv, V3, rfl, o3, y3, f3⟩
  have l3 := head_in (KE.out _ (Mod.refl _ _)).1 o3
  have q3 := Sl.cells_eq l3.row
  have q4 := Sl.cells_eq l3.prow
  have t1 := Sl.run_st (P := Try.prog) l3.row
  have t2 := Sl.run_st (P := Try.prog) l3.prow
  have H3 := Lib.hid (And.intro o3 (And.intro y3 (And.intro f3 l3)))
  have hl3 : (headL L L.ev.length).ev.length ≤ 1000 := by have := (small_head HS.out L.ev.length).ev; omega
  clear o3 y3 f3 l3 c0 c1
  go_upto_region 2 with fail
  obtain ⟨w4, hw4⟩ : ∃ w4, w4 = w3.alloc (.cells #[hv, pv] 25) := ⟨_, rfl⟩
  obtain ⟨g5, hg5⟩ : ∃ g, g = w3.heap.size := ⟨_, rfl⟩
  have x4 : Ext w3 w4 := by rw [hw4]; exact (Mod.refl _ _).alloc _
  have b4 : w4.heap[g5]? = some (.cells #[hv, pv] 25 (0, 0)) := by rw [hw4, hg5]; exact heap_alloc_new _ _
  rw [← hw4, ← hg5]
  have H4 := Lib.hid (And.intro x4 (And.intro b4 hg5))
  obtain ⟨c0, c1, c2, c3, c4, c5, c6, c7, c8, c9⟩ := (KE.out _ (H3.out.2.1.trans x4)).2.2.2.cells
  have d0 : w4.cell? ⟨g5, 0, none⟩ = some hv := by simp [World.cell?, b4]
  clear hw4 hg5 x4 b4
  go_upto_region 3 with (at_builtin; go_loud (refine wpList_app IEv rfl (.tmp 12) (.tmp 14) rfl ((H3.out.1.row.ext H4.out.1).ext ((Mod.refl _ _).alloc _)) (built_sl (n := 1) (g := w4.heap.size) (e := 46) (cs := evArr e v) (by simp only [heap_alloc_if, if_true]) rfl (by simp only [maxLen]; omega)) (one10 (Sl.one (KE.out w3 H3.out.2.1).2.2.1.rd) (Sl.one (KE.out w3 H3.out.2.1).2.2.1.wr) (Sl.one (KE.out w3 H3.out.2.1).2.2.1.fr.sl)) (by simp [Act.eval]) (by simp [Act.eval]) (by omega) (by simp only [maxLen]; omega) ?_); intro hv9 w9 ol9 gr9 fr9 nn9; obtain ⟨la9, lc9, hlv9, _⟩ := ol9.sl.shape; subst hlv9; have M9 : Mod (fun q => hv.ownBlock = some q) w4 w9 := Mod.grown (Mod.alloc (Mod.refl _ _) _) gr9 (fun q h => .inl h); have z5 := M9.blk H4.out.2.1 (fun h => (H3.out.1.row.ext H4.out.1).apart_obj H4.out.2.1 (by decide) h); have e9 : w9.cell? ⟨g5, 0, none⟩ = some hv := (by simp [World.cell?, z5]); have f9 : w9.frozen? ⟨g5, 0, none⟩ = false := (by simp [World.frozen?, z5]); have H9 := Lib.hid (And.intro ol9 (And.intro M9 z5)); clear ol9 gr9 fr9 nn9 M9 z5)
  obtain ⟨o9, M9, z5⟩ := H9.out
  have hb2 : w4.heap[g + 1 + 1]? = some (.cells #[.slice none 0 0, .slice none 0 0] 25 (0, 0)) := Ext.blk (H3.out.2.1.trans H4.out.1) HW.out.2.2.2
  have z2 := M9.blk hb2 (fun h => by have h1 := H3.out.2.2.1 _ (.inl h); have h2 := lt_of_block HW.out.2.2.2; omega)
  have hne : g + 1 + 1 ≠ g5 := by have h1 := H4.out.2.2; have h2 := lt_of_block HW.out.2.2.2; have h3 := H3.out.2.1.size; omega
  obtain ⟨wa, hwa⟩ : ∃ wa, wa = w9.setCell ⟨g5, 0, none⟩ (.slice la9 ((headL L L.ev.length).ev.length + 1) lc9) := ⟨_, rfl⟩
  have Ma : Mod (fun q => q = g5) w9 wa := by rw [hwa]; exact Mod.setCell (F := fun q => q = g5) (Mod.refl _ _) (.inl rfl) _
  have ya2 := Ma.blk z2 hne
  have ya5 : wa.heap[g5]? = some (.cells #[.slice la9 ((headL L L.ev.length).ev.length + 1) lc9, pv] 25 (0, 0)) := by rw [hwa]; simp [World.setCell, Array.getElem?_modify, z5]
  rw [← hwa]
  have d0 : wa.cell? ⟨g5, 0, none⟩ = some (.slice la9 ((headL L L.ev.length).ev.length + 1) lc9) := by simp [World.cell?, ya5]
  have d1 : wa.cell? ⟨g5, 1, none⟩ = some pv := by simp [World.cell?, ya5]
  have d2 : wa.cell? ⟨g + 1 + 1, 0, none⟩ = some (.slice none 0 0) := by simp [World.cell?, ya2]
  have d3 : wa.cell? ⟨g + 1 + 1, 1, none⟩ = some (.slice none 0 0) := by simp [World.cell?, ya2]
  have f2 : wa.frozen? ⟨g + 1 + 1, 0, none⟩ = false := by simp [World.frozen?, ya2]
  have f3 : wa.frozen? ⟨g + 1 + 1, 1, none⟩ = false := by simp [World.frozen?, ya2]
  have HA := Lib.hid (And.intro o9 (And.intro M9 (And.intro Ma (And.intro ya2 (And.intro ya5 hne)))))
  clear o9 M9 z5 hb2 z2 hne hwa Ma ya2 ya5 c0 c1 c2 c3 c4 c5 c6 c7 c8 c9 e9 f9
  go_wp2_with fail
  obtain ⟨o9, M9, Ma, ya2, ya5, hne⟩ := HA.out
  refine bodyPost_ret (results_cell_row rfl _ _ (g + 1 + 1) 25 #[.slice la9 ((headL L L.ev.length).ev.length + 1) lc9, pv] (0, 0) _ rfl (by simp [World.setCell, Array.getElem?_modify, ya2]) Try.underlying25 rfl (by kernel_rfl)) rfl ?_
  obtain ⟨wz, hwz⟩ : ∃ wz, wz = (wa.setCell ⟨g + 1 + 1, 0, none⟩ (.slice la9 ((headL L L.ev.length).ev.length + 1) lc9)).setCell ⟨g + 1 + 1, 1, none⟩ pv := ⟨_, rfl⟩
  rw [← hwz]
  have Mz : Mod (fun q => q = g + 1 + 1) wa wz := by rw [hwz]; exact Mod.setCell (F := fun q => q = g + 1 + 1) (Mod.setCell (F := fun q => q = g + 1 + 1) (Mod.refl _ _) (.inl rfl) _) (.inl rfl) _
  have hlt2 := lt_of_block HW.out.2.2.2
  have hsz := H3.out.2.1.size
  have hg5 := H4.out.2.2
  have M : Mod (fun q => hv.ownBlock = some q ∨ q = g + 1 + 1) w3 wz := ((((Ext.mod H4.out.1 _).trans' M9 (fun q hq => .inl (.inl hq))).trans' Ma (fun q hq => .inr (by omega))).trans' Mz (fun q hq => .inl (.inr hq)))
  obtain ⟨o3, y3, f3, l3⟩ := H3.out
  have hfr : ∀ q, LogFp hv pv V3 (headL L L.ev.length).ev.length q → q ≠ g + 1 + 1 := fun q hq h => by have := f3 q hq; omega
  refine ⟨_, pv, evUpd V3 (headL L L.ev.length).ev.length v, rfl, log_push l3 (KE.out _ y3).2.2.1 M (fun k hk hF => ?_) (fun i k hi hk hF => ?_) (fun k hk hF => ?_) ?_, ?_⟩
  · have hk' := fp_ob hk
    rcases hF with h | h
    · exact o3.row.apart o3.prow (by decide) h hk'
    · exact hfr k (.inr (.inl hk')) h
  · have hk' : EvFp (V3 i) k := by rcases hk with h | h | h; exact .inl (fp_ob h); exact .inr (.inl (fp_ob h)); exact .inr (.inr (fp_ob h))
    rcases hF with h | h
    · have he := o3.ev i hi
      rcases hk' with h2 | h2 | h2
      · exact o3.row.apart he.rd (by decide) h h2
      · exact o3.row.apart he.wr (by decide) h h2
      · exact o3.row.apart he.fr (by decide) h h2
    · exact hfr k (.inr (.inr ⟨i, hi, hk'⟩)) h
  · have he := (KE.out _ (Mod.refl _ _)).2.2.1
    have hlt : k < g := by
      have hw := HV.out
      rcases hk with h | h | h
      · have := Sl.lt hw.rd (by decide) h; have := HW.out.2.1; omega
      · have := Sl.lt hw.wr (by decide) h; have := HW.out.2.1; omega
      · have := Sl.lt hw.fr.sl (by decide) h; have := HW.out.2.1; omega
    rcases hF with h | h
    · have := f3 k (.inl h); omega
    · omega
  · have z5 := (M9.blk H4.out.2.1 (fun h => (o3.row.ext H4.out.1).apart_obj H4.out.2.1 (by decide) h))
    have oa := o9.mod Ma (fun q hq hl => by subst hl; exact o9.apart_obj z5 (by decide) hq)
    exact (oa.mod Mz (fun q hq hl => by subst hl; exact oa.apart_obj ya2 (by decide) hq)).sl
  · exact (HW.out.2.2.1.trans y3).trans' M (fun q hq => .inr (by
      have := HW.out.2.1
      have := HW.out.2.2.1.size
      rcases hq with h | h
      · have := f3 q (.inl h); omega
      · omega))
end Go.Proofs.Ytkibdabbjbcboaa
