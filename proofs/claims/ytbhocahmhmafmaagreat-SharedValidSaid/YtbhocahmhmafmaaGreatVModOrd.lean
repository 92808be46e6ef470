/-
  The contracts of model.Natural, model.places, model.Ordered. No condition.
-/
import Derived.Test.YtbhocahmhmafmaaGreatVModTear
import Derived.Test.YtbhocahmhmafmaaGreatVRaceUn
namespace Go.Ren
set_option linter.unusedVariables false
theorem natP_succ (i : Nat) : (List.range (i + 1)).map (fun j : Nat => Go.Ren.iv (j : Int)) = (List.range i).map (fun j : Nat => Go.Ren.iv (j : Int)) ++ [Go.Ren.iv (i : Int)] := by simp [List.range_succ]
theorem posK_succ (l : List Int) (i k : Nat) : posK l (i + 1) k = if posK l i k = -1 then (if (l.getD i (-1) == (k : Int)) = true then (i : Int) else -1) else posK l i k := rfl
theorem posK_cases (l : List Int) (i k : Nat) : posK l i k = -1 ∨ (0 ≤ posK l i k ∧ posK l i k < i) := by
 unfold posK
 rcases fstN_cases (fun j => l.getD j (-1) == (k : Int)) i with ⟨h, _⟩ | ⟨c, h1, h2, _⟩
 · exact .inl h
 · exact .inr (by omega)
def atF (n : Nat) (l : List Int) (i : Nat) (k : Nat) : Value := iv (posK l i k)
def fillF (i k : Nat) : Value := iv (if k < i then -1 else 0)
theorem plOk_false {n : Nat} {l : List Int} {i : Nat} (hi : i < l.length) (h : plStep n l i = false) : plOk n l = false := by
 cases hp : plOk n l with
 | false => rfl
 | true =>
  unfold plOk at hp
  rw [Bool.and_eq_true, allN_iff] at hp
  rw [hp.2 i hi] at h; cases h
end Go.Ren
namespace Go.Proofs.YtbhocahmhmafmaaGreat
open Go.Ren Go.RowKit
set_option linter.unusedVariables false
def NatPost (l : List Int) (w : World) (e : Ending) (w' : World) : Prop := ∃ v, e = .returned v ∧ IntsAt w' v l ∧ Ext w w'
theorem one1 (x : Int) : ∀ y ∈ [Value.int .i64 x], y.oneCell' = true := by intro y hy; rw [List.mem_singleton] at hy; subst hy; rfl
set_option maxRecDepth 100000 in
set_option maxHeartbeats 800000 in
theorem natural_any (w : World) (ve vp : Value) (V : Nat → Vs) (L : Lg) (h : LogIn w ve vp V L) (hl : L.ev.length ≤ 64) :
 Calls Tryz.prog 26 #[.agg #[ve, vp]] w (NatPost (natL L) w) := by
 have hle : (L.ev.length : Int) ≤ 64 := by omega
 clear hl
 have q1 := Sl.cells_eq h.row
 have q2 := Sl.cells_eq h.prow
 have s1 := Sl.run_st (P := Tryz.prog) h.row
 have s2 := Sl.run_st (P := Tryz.prog) h.prow
 obtain ⟨w0, hw0⟩ : ∃ w0, w0 = w.alloc (.cells #[ve, vp] 48) := ⟨_, rfl⟩
 obtain ⟨g0, hg0⟩ : ∃ g, g = w.heap.size := ⟨_, rfl⟩
 have x0 : Ext w w0 := by rw [hw0]; exact (Mod.refl _ _).alloc _
 have b0 : LogBox w0 g0 ve vp := ⟨by rw [hw0, hg0]; exact heap_alloc_new _ _⟩
 have HW := Lib.hid (And.intro hw0 (And.intro hg0 x0))
 have KE : Hid (∀ w', Ext w0 w' → LogIn w' ve vp V L ∧ LogBox w' g0 ve vp) := Lib.hid fun w' x => ⟨h.ext (x0.trans x), b0.ext x⟩
 have HI := Lib.hid (h.row.run_idx (P := Tryz.prog) IEv.und IEv.size .i64)
 have HJ := Lib.hid (h.prow.run_idx (P := Tryz.prog) IP.und IP.size .i64)
 have l1 := h.row.run_len (P := Tryz.prog) IEv.und 3
 have l2 := h.prow.run_len (P := Tryz.prog) IP.und 3
 obtain ⟨c0, c1⟩ := b0.cells
 clear hw0 hg0 x0 b0 h
 go_enter Tryz.func26, Tryz.ntmps26
 go_upto_region 1 with fail
 rw [← HW.out.1, ← HW.out.2.1]
 clear s1 s2
 go_wp2_with fail
 refine (may_any _ ve vp V L (KE.out _ (Mod.refl _ _)).1).mono ?_
 rintro e w1 ⟨rfl, y1⟩
 clear c0 c1
 cases hm : mayL L with
 | false =>
  have HC : Hid (natL L = []) := Lib.hid (by unfold natL; rw [hm]; rfl)
  clear hm
  go_wp2_with fail
  go_ret
  refine ⟨_, rfl, ?_, HW.out.2.2.trans y1⟩
  rw [HC.out]
  exact ⟨(Own.nil _ 3 1).sl, fun x hx => by cases hx⟩
 | true =>
  have HC : Hid (natL L = (List.range L.ev.length).map fun i : Nat => (i : Int)) := Lib.hid (by unfold natL; rw [if_pos hm])
  clear hm
  obtain ⟨c0, c1⟩ := (KE.out _ y1).2.cells
  have HY1 := Lib.hid y1
  clear y1
  go_wp2_with fail
  clear c0 c1
  go_loopw [3, 10] (fun s3 s wr => ∃ k : Nat, k ≤ L.ev.length ∧ s = .int .i64 (k : Int) ∧ Own wr 3 1 s3 k ((List.range k).map (fun j : Nat => iv (j : Int))) ∧ Ext w1 wr ∧ ∀ q, s3.ownBlock = some q → w1.heap.size ≤ q) (fun _ s _ => L.ev.length - (intOf s).toNat)
  case atStart => exact ⟨0, Nat.zero_le _, rfl, Own.nil _ _ _, Mod.refl _ _, fun q hq => by cases hq⟩
  case round =>
   obtain ⟨k, hk, rfl, ho, xx, hf⟩ := hrel
   have H := Lib.hid (And.intro ho (And.intro xx hf))
   clear ho xx hf
   by_cases hlt : k < L.ev.length
   · have hlt' : (k : Int) < (L.ev.length : Int) := by omega
     go_wp2_with (at_builtin; go_loud (refine wpList_app II rfl (.tmp 13) (.tmp 15) rfl (H.out.1.ext (Mod.alloc (Mod.refl _ _) _)) (built_sl (n := 1) (g := wr.heap.size) (e := 3) (cs := #[.int .i64 (k : Int)]) (by simp only [heap_alloc_if, if_true]) rfl (by simp only [maxLen]; omega)) (one1 _) (by simp [Act.eval]) (by simp [Act.eval]) (by omega) (by simp only [maxLen]; omega) ?_); intro lv' w2 ol2 gr2 fr2 nn2; have HH := Lib.hid (And.intro ol2 (And.intro gr2 fr2)); clear ol2 gr2 fr2 nn2)
     go_roundw
     case rel =>
      obtain ⟨ol2, gr2, fr2⟩ := HH.out
      have M2 : Mod (fun q => u3.ownBlock = some q) wr w2 := Mod.grown (Mod.alloc (Mod.refl _ _) _) gr2 (fun q h => .inl h)
      exact ⟨k + 1, by omega, by go_num, by rw [natP_succ]; exact ol2, H.out.2.1.trans' M2 (fun q hq => .inr (H.out.2.2 q hq)), fun q hq => by
       rcases fr2 q hq with h | h
       · exact H.out.2.2 q h
       · simp only [World.size_alloc] at h; have := H.out.2.1.size; omega⟩
     case measure => simp [intOf]; omega
   · have hlt' : ¬ (k : Int) < (L.ev.length : Int) := by omega
     have HK : Hid (k = L.ev.length) := Lib.hid (by omega)
     go_wp2_with fail
     go_ret
     refine ⟨_, rfl, ⟨?_, fun x hx => ?_⟩, HW.out.2.2.trans (HY1.out.trans H.out.2.1)⟩
     · have h1 := H.out.1.sl
       have hk2 := HK.out
       rw [hk2] at h1
       rw [HC.out]
       simpa [List.map_map, Function.comp_def] using h1
     · rw [HC.out, List.mem_map] at hx
       obtain ⟨j, hj, rfl⟩ := hx
       rw [List.mem_range] at hj
       unfold I64; omega
def PlacesPost (n : Nat) (l : List Int) (w : World) (e : Ending) (w' : World) : Prop := ∃ v, e = .returned (.tuple #[v, .bool (plOk n l)]) ∧ (plOk n l = true → Own w' 3 1 v n ((List.range n).map fun k => iv (posI l k))) ∧ Ext w w'
set_option maxRecDepth 100000 in
set_option maxHeartbeats 1600000 in
theorem places_any (w : World) (n : Nat) (hn : n ≤ 64) (ov : Value) (l : List Int) (h : IntsAt w ov l) :
 Calls Tryz.prog 136 #[.int .i64 (n : Int), ov] w (PlacesPost n l w) := by
 have l1 := h.sl.run_len (P := Tryz.prog) II.und 3
 have I1 := Lib.hid (h.sl.run_idx (P := Tryz.prog) II.und II.size .i64)
 have m1 := run_make_row' (P := Tryz.prog) 33 3 (.int .i64 0) 8 II.und II.info rfl .i64 .i64 n (by omega) (by omega)
 have HV := Lib.hid h
 have HN := Lib.hid hn
 have hm : (l.length : Int) ≤ 9223372036854775807 := by obtain ⟨_, c, _, q1, q2, _⟩ := h.sl.shape; simp only [maxLen] at q2; omega
 obtain ⟨B, hB⟩ : ∃ B, B = plOk n l := ⟨_, rfl⟩
 have HB := Lib.hid hB
 clear h
 by_cases hlen : l.length = n
 case neg =>
  have ht : ((l.length : Int) != (n : Int)) = true := by rw [bne_iff_ne]; omega
  have HF : Hid (plOk n l = false) := Lib.hid (by unfold plOk; simp [hlen])
  clear hlen hB hn
  go_enter Tryz.func136, Tryz.ntmps136
  go_wp2_with fail
  go_ret2
  exact ⟨_, by rw [HF.out]; rfl, fun h => (by rw [HF.out] at h; cases h), Mod.refl _ _⟩
 case pos =>
  have ht : ((l.length : Int) != (n : Int)) = false := by rw [bne_eq_false_iff_eq]; omega
  have HL := Lib.hid hlen
  clear hlen hB hn
  have hnI : (n : Int) ≤ 64 := by have := HN.out; omega
  go_enter Tryz.func136, Tryz.ntmps136
  go_upto_region 4 with fail
  obtain ⟨w0, hw0⟩ : ∃ w0, w0 = w.alloc (.cells (madeCells #[.int .i64 0] n) 3) := ⟨_, rfl⟩
  obtain ⟨v, hv⟩ : ∃ v : Value, v = .slice (some ⟨w.heap.size, 0, none⟩) n n := ⟨_, rfl⟩
  rw [← hw0, ← hv]
  have x0 : Ext w w0 := by rw [hw0]; exact (Mod.refl _ _).alloc _
  have o0 : Own w0 3 1 v n ((List.range n).map (fillF 0)) := by
   have h1 : w0.heap[w.heap.size]? = some (.cells (madeCells #[.int .i64 0] n) 3 (0, 0)) := by rw [hw0]; exact heap_alloc_new _ _
   have h2 := Own.made_at h1 (by simp [maxLen]; have := HN.out; omega)
   rw [hv]
   have e : (List.range n).map (fillF 0) = List.replicate n (.int .i64 0) := by
    apply List.ext_getElem?
    intro j
    by_cases hj : j < n
    · simp [hj, fillF, iv]
    · simp [hj]
   rw [e]; exact h2
  have hvb : v.ownBlock = some w.heap.size := by rw [hv]; rfl
  have HW := Lib.hid (And.intro x0 hvb)
  have HO0 := Lib.hid o0
  have l0 := o0.sl.run_len (P := Tryz.prog) II.und 3
  have I0 := Lib.hid (o0.sl.run_idx (P := Tryz.prog) II.und II.size .i64)
  clear hw0 hv x0 o0 hvb m1
  go_wp2_with fail
  go_loopw [18] (fun s wr => ∃ i : Nat, i ≤ n ∧ s = .int .i64 (i : Int) ∧ Own wr 3 1 v n ((List.range n).map (fillF i)) ∧ Mod (fun q => v.ownBlock = some q) w0 wr) (fun s _ => n - (intOf s).toNat)
  case atStart => exact ⟨0, Nat.zero_le _, rfl, HO0.out, Mod.refl _ _⟩
  case round =>
   obtain ⟨i, hi, rfl, ho, md⟩ := hrel
   have H := Lib.hid (And.intro ho md)
   by_cases hlt : i < n
   · have hlt' : (i : Int) < (n : Int) := by omega
     have i0 := I0.out i hlt
     simp only [Nat.mul_one] at i0
     have c0 := ho.sl.cell i (fillF i i) (by simp [hlt])
     have f0 := ho.frozen i (by omega)
     clear ho md
     go_wp2_with fail
     go_roundw
     case rel =>
      obtain ⟨ho, md⟩ := H.out
      have os := ho.set (by omega) i (.int .i64 (-1))
      have M8 : Mod (fun q => v.ownBlock = some q) wr (wr.setCell (at_ v i) (.int .i64 (-1))) := Mod.setCell (F := fun q => v.ownBlock = some q) (Mod.refl _ _) (.inl (ho.at_block (by omega) i)) _
      refine ⟨i + 1, by omega, by go_num, ?_, md.trans M8⟩
      have e9 : ((List.range n).map (fillF i)).set i (.int .i64 (-1)) = (List.range n).map (fillF (i + 1)) := range_map_set (f := fillF i) (g := fillF (i + 1)) (i := i) (.int .i64 (-1)) hlt (fun j hj hne => by
       unfold fillF
       by_cases h1 : j < i
       · rw [if_pos h1, if_pos (by omega)]
       · rw [if_neg h1, if_neg (by omega)]) (by simp [fillF, iv])
      rw [e9] at os
      exact os
     case measure => simp [intOf]; omega
   · have hlt' : ¬ (i : Int) < (n : Int) := by omega
     have HS : Hid (Own wr 3 1 v n ((List.range n).map (atF n l 0)) ∧ Mod (fun q => v.ownBlock = some q) w0 wr) := Lib.hid ⟨by
      have e : (List.range n).map (fillF i) = (List.range n).map (atF n l 0) := List.map_congr_left fun j hj => by
       rw [List.mem_range] at hj
       unfold fillF atF
       rw [if_pos (by omega)]; rfl
      rw [← e]; exact ho, md⟩
     clear ho md
     go_wp2_with fail
     go_loopw [27] (fun s wr => ∃ i : Nat, i ≤ l.length ∧ s = .int .i64 (i : Int) ∧ (∀ j, j < i → plStep n l j = true) ∧ Own wr 3 1 v n ((List.range n).map (atF n l i)) ∧ Mod (fun q => v.ownBlock = some q) w0 wr) (fun s _ => l.length - (intOf s).toNat)
     case atStart => exact ⟨0, Nat.zero_le _, rfl, fun j hj => absurd hj (Nat.not_lt_zero _), HS.out.1, HS.out.2⟩
     case round =>
      obtain ⟨i, hi, rfl, hst, ho, md⟩ := hrel
      have H := Lib.hid (And.intro ho (And.intro md hst))
      have XW : Hid (Ext w wr) := Lib.hid (HW.out.1.trans' md (fun q hq => .inr (by have := HW.out.2; rw [this] at hq; simp at hq; omega)))
      by_cases hil : i < l.length
      · have hil' : (i : Int) < (l.length : Int) := by omega
        have j0 := I1.out i hil
        simp only [Nat.mul_one] at j0
        have cF := (HV.out.ext XW.out).cell hil
        obtain ⟨z, hz⟩ : ∃ z, z = l[i] := ⟨_, rfl⟩
        have hzd : l.getD i (-1) = z := by rw [hz]; simp [hil]
        rw [← hz] at cF
        have HZ := Lib.hid hzd
        have hno : ∀ hx : plStep n l i = false, plOk n l = false := fun hx => plOk_false hil hx
        have HNO := Lib.hid hno
        clear hz hzd hno
        rcases (by omega : z < 0 ∨ (0 ≤ z ∧ (n : Int) ≤ z) ∨ (0 ≤ z ∧ z < (n : Int))) with g | ⟨g, g'⟩ | ⟨g, g'⟩
        case inr.inr =>
         obtain ⟨k, rfl⟩ := Int.eq_ofNat_of_zero_le g
         have hkn : k < n := by omega
         have g1 : ¬ (k : Int) < 0 := by omega
         have g2 : ¬ (n : Int) ≤ (k : Int) := by omega
         have i0 := I0.out k hkn
         simp only [Nat.mul_one] at i0
         have c0 := ho.sl.cell k (atF n l i k) (by simp [hkn])
         unfold atF iv at c0
         have f0 := ho.frozen k (by omega)
         obtain ⟨pk, hpk⟩ : ∃ x, x = posK l i k := ⟨_, rfl⟩
         have hpc := posK_cases l i k
         rw [← hpk] at c0 hpc
         have HPK := Lib.hid hpk
         clear ho md hst hpk g
         rcases hpc with rfl | ⟨q1, q2⟩
         · have HT : Hid (plStep n l i = true) := Lib.hid (by
            unfold plStep
            rw [HZ.out, Int.toNat_natCast, ← HPK.out]
            simp; omega)
           go_wp2_with fail
           go_roundw
           case rel =>
            obtain ⟨ho, md, hst⟩ := H.out
            have os := ho.set (by omega) k (.int .i64 (i : Int))
            have M8 : Mod (fun q => v.ownBlock = some q) wr (wr.setCell (at_ v k) (.int .i64 (i : Int))) := Mod.setCell (F := fun q => v.ownBlock = some q) (Mod.refl _ _) (.inl (ho.at_block (by omega) k)) _
            refine ⟨i + 1, by omega, by go_num, lt_step hst HT.out, ?_, md.trans M8⟩
            have e9 : ((List.range n).map (atF n l i)).set k (.int .i64 (i : Int)) = (List.range n).map (atF n l (i + 1)) := range_map_set (f := atF n l i) (g := atF n l (i + 1)) (i := k) (.int .i64 (i : Int)) hkn (fun j hj hne => by
             unfold atF
             rw [posK_succ, HZ.out]
             by_cases hp : posK l i j = -1
             · rw [if_pos hp, if_neg (by simp; omega), hp]
             · rw [if_neg hp]) (by
             unfold atF iv
             rw [posK_succ, HZ.out, if_pos HPK.out.symm, if_pos (by simp)])
            rw [e9] at os
            exact os
           case measure => simp [intOf]; omega
         · have HF : Hid (plOk n l = false) := Lib.hid (HNO.out (by
            unfold plStep
            rw [HZ.out, Int.toNat_natCast, ← HPK.out]
            simp; omega))
           go_wp2_with fail
           go_ret2
           exact ⟨_, by rw [HF.out]; rfl, fun h => (by rw [HF.out] at h; cases h), XW.out⟩
        all_goals
         have HF : Hid (plOk n l = false) := Lib.hid (HNO.out (by
          unfold plStep
          rw [HZ.out]
          simp; omega))
         clear ho md hst
         go_wp2_with fail
         go_ret2
         exact ⟨_, by rw [HF.out]; rfl, fun h => (by rw [HF.out] at h; cases h), XW.out⟩
      · have hil' : ¬ (i : Int) < (l.length : Int) := by omega
        have HI2 : Hid (i = l.length) := Lib.hid (by omega)
        have HT : Hid (plOk n l = true) := Lib.hid (by
         unfold plOk
         rw [Bool.and_eq_true, decide_eq_true_eq, allN_iff]
         exact ⟨HL.out, fun j hj => hst j (by omega)⟩)
        clear ho md hst
        go_wp2_with fail
        go_ret2
        exact ⟨_, by rw [HT.out]; rfl, fun _ => (by have h1 := H.out.1; have h2 := HI2.out; rw [h2] at h1; exact h1), XW.out⟩
end Go.Proofs.YtbhocahmhmafmaaGreat
