/-
  The contracts of renref14.places, renref14.Ordered. No condition.
-/
import Derived.Test.YtbhocahmhmafmaaGreatVRvHid
import Derived.Test.YtbhocahmhmafmaaGreatVModOrdered
namespace Go.Ren
set_option linter.unusedVariables false
def ordR (L : Lg) (l : List Int) (x y : Nat) : Bool := !hbB L x y || decide (posI l x < posI l y)
theorem ord_all {L : Lg} {l : List Int} (hm : mayL L = true) (hp : plOk L.ev.length l = true) (h : ∀ x y, x < L.ev.length → y < L.ev.length → ordR L l x y = true) : ordI L l = -1 := by
 unfold ordI ordB
 rw [hm, hp, if_pos]
 rw [Bool.true_and, Bool.true_and, List.all_eq_true]
 intro p hpm
 obtain ⟨a, b, rfl, ha, hb, hh⟩ := mem_listR.1 hpm
 have := h a b ha hb
 unfold ordR at this
 rw [hh] at this
 unfold ordP
 simpa using this
theorem ord_hit {L : Lg} {l : List Int} {a b : Nat} (ha : a < L.ev.length) (hb : b < L.ev.length) (hh : hbB L a b = true) (hz : posI l b ≤ posI l a) : ordI L l = 0 := by
 unfold ordI
 have : ordB L l = false := by
  unfold ordB
  have hf : (listR L.ev.length (hbB L)).all (ordP l) = false := by
   rw [List.all_eq_false]
   exact ⟨((a : Int), (b : Int)), mem_listR.2 ⟨a, b, rfl, ha, hb, hh⟩, by unfold ordP; simp; omega⟩
  rw [hf, Bool.and_false]
 rw [this]; rfl
theorem ord_no {L : Lg} {l : List Int} (hp : plOk L.ev.length l = false) : ordI L l = 0 := by unfold ordI ordB; rw [hp]; simp
theorem plOk_len {n : Nat} {l : List Int} (h : plOk n l = true) : l.length = n := by unfold plOk at h; simp only [Bool.and_eq_true, decide_eq_true_eq] at h; exact h.1
theorem plOk_zero {l : List Int} (h : plOk 0 l = false) : l.length ≠ 0 := by
 intro e
 unfold plOk at h
 rw [e] at h
 simp [allN] at h
end Go.Ren
namespace Go.Proofs.YtbhocahmhmafmaaGreat
open Go.Ren Go.RowKit
set_option linter.unusedVariables false
def RPlPost (n : Nat) (l : List Int) (w : World) (e : Ending) (w' : World) : Prop := ∃ v, e = .returned v ∧ ((plOk n l = true ∧ Own w' 3 1 v n ((List.range n).map fun k => iv (posI l k))) ∨ (plOk n l = false ∧ v = .slice none 0 0)) ∧ Ext w w'
set_option maxRecDepth 100000 in
set_option maxHeartbeats 1600000 in
theorem rplaces_any (w : World) (n : Nat) (hn : n ≤ 64) (ov : Value) (l : List Int) (h : IntsAt w ov l) :
 Calls Tryz.prog 144 #[.int .i64 (n : Int), ov] w (RPlPost n l w) := by
 have l1 := h.sl.run_len (P := Tryz.prog) II.und 3
 have I1 := Lib.hid (h.sl.run_idx (P := Tryz.prog) II.und II.size .i64)
 have m1 := run_make_row' (P := Tryz.prog) 33 3 (.int .i64 0) 8 II.und II.info rfl .i64 .i64 n (by omega) (by omega)
 have HV := Lib.hid h
 have HN := Lib.hid hn
 have hm : (l.length : Int) ≤ 9223372036854775807 := by obtain ⟨_, c, _, q1, q2, _⟩ := h.sl.shape; simp only [maxLen] at q2; omega
 clear h
 by_cases hlen : l.length = n
 case neg =>
  have ht : ((l.length : Int) != (n : Int)) = true := by rw [bne_iff_ne]; omega
  have HF : Hid (plOk n l = false) := Lib.hid (by unfold plOk; simp [hlen])
  clear hlen hn
  go_enter Tryz.func144, Tryz.ntmps144
  go_wp2_with fail
  go_ret
  exact ⟨_, rfl, .inr ⟨HF.out, rfl⟩, Mod.refl _ _⟩
 case pos =>
  have ht : ((l.length : Int) != (n : Int)) = false := by rw [bne_eq_false_iff_eq]; omega
  have HL := Lib.hid hlen
  clear hlen hn
  have hnI : (n : Int) ≤ 64 := by have := HN.out; omega
  go_enter Tryz.func144, Tryz.ntmps144
  go_upto_region 4 with fail
  obtain ⟨w0, hw0⟩ : ∃ w0, w0 = w.alloc (.cells (madeCells #[.int .i64 0] n) 3) := ⟨_, rfl⟩
  obtain ⟨v, hv⟩ : ∃ v : Value, v = .slice (some ⟨w.heap.size, 0, none⟩) n n := ⟨_, rfl⟩
  rw [← hw0, ← hv]
  have x0 : Ext w w0 := by rw [hw0]; exact (Mod.refl _ _).alloc _
  have o0 : Own w0 3 1 v n ((List.range n).map (fillF 0)) := by
   have h1 : w0.heap[w.heap.size]? = some (.cells (madeCells #[.int .i64 0] n) 3 (0, 0)) := by rw [hw0]; exact heap_alloc_new _ _
   have h2 := Own.made_at h1 (by simp [maxLen]; have := HN.out; omega)
   rw [hv]
   have e : (List.range n).map (fillF 0) = List.replicate n (.int .i64 0) := by
    apply List.ext_getElem?
    intro j
    by_cases hj : j < n
    · simp [hj, fillF, iv]
    · simp [hj]
   rw [e]; exact h2
  have hvb : v.ownBlock = some w.heap.size := by rw [hv]; rfl
  have HW := Lib.hid (And.intro x0 hvb)
  have HO0 := Lib.hid o0
  have l0 := o0.sl.run_len (P := Tryz.prog) II.und 3
  have I0 := Lib.hid (o0.sl.run_idx (P := Tryz.prog) II.und II.size .i64)
  clear hw0 hv x0 o0 hvb m1
  go_wp2_with fail
  go_loopw [6] (fun s wr => ∃ i : Nat, i ≤ n ∧ s = .int .i64 (i : Int) ∧ Own wr 3 1 v n ((List.range n).map (fillF i)) ∧ Mod (fun q => v.ownBlock = some q) w0 wr) (fun s _ => n - (intOf s).toNat)
  case atStart => exact ⟨0, Nat.zero_le _, rfl, HO0.out, Mod.refl _ _⟩
  case round =>
   obtain ⟨i, hi, rfl, ho, md⟩ := hrel
   have H := Lib.hid (And.intro ho md)
   by_cases hlt : i < n
   · have hlt' : (i : Int) < (n : Int) := by omega
     have i0 := I0.out i hlt
     simp only [Nat.mul_one] at i0
     have c0 := ho.sl.cell i (fillF i i) (by simp [hlt])
     have f0 := ho.frozen i (by omega)
     clear ho md
     go_wp2_with fail
     go_roundw
     case rel =>
      obtain ⟨ho, md⟩ := H.out
      have os := ho.set (by omega) i (.int .i64 (-1))
      have M8 : Mod (fun q => v.ownBlock = some q) wr (wr.setCell (at_ v i) (.int .i64 (-1))) := Mod.setCell (F := fun q => v.ownBlock = some q) (Mod.refl _ _) (.inl (ho.at_block (by omega) i)) _
      refine ⟨i + 1, by omega, by go_num, ?_, md.trans M8⟩
      have e9 : ((List.range n).map (fillF i)).set i (.int .i64 (-1)) = (List.range n).map (fillF (i + 1)) := range_map_set (f := fillF i) (g := fillF (i + 1)) (i := i) (.int .i64 (-1)) hlt (fun j hj hne => by
       unfold fillF
       by_cases h1 : j < i
       · rw [if_pos h1, if_pos (by omega)]
       · rw [if_neg h1, if_neg (by omega)]) (by simp [fillF, iv])
      rw [e9] at os
      exact os
     case measure => simp [intOf]; omega
   · have hlt' : ¬ (i : Int) < (n : Int) := by omega
     have HS : Hid (Own wr 3 1 v n ((List.range n).map (atF n l 0)) ∧ Mod (fun q => v.ownBlock = some q) w0 wr) := Lib.hid ⟨by
      have e : (List.range n).map (fillF i) = (List.range n).map (atF n l 0) := List.map_congr_left fun j hj => by
       rw [List.mem_range] at hj
       unfold fillF atF
       rw [if_pos (by omega)]; rfl
      rw [← e]; exact ho, md⟩
     clear ho md
     go_wp2_with fail
     go_loopw [7] (fun s wr => ∃ i : Nat, i ≤ n ∧ s = .int .i64 (i : Int) ∧ (∀ j, j < i → plStep n l j = true) ∧ Own wr 3 1 v n ((List.range n).map (atF n l i)) ∧ Mod (fun q => v.ownBlock = some q) w0 wr) (fun s _ => n - (intOf s).toNat)
     case atStart => exact ⟨0, Nat.zero_le _, rfl, fun j hj => absurd hj (Nat.not_lt_zero _), HS.out.1, HS.out.2⟩
     case round =>
      obtain ⟨i, hi, rfl, hst, ho, md⟩ := hrel
      have H := Lib.hid (And.intro ho (And.intro md hst))
      have XW : Hid (Ext w wr) := Lib.hid (HW.out.1.trans' md (fun q hq => .inr (by have := HW.out.2; rw [this] at hq; simp at hq; omega)))
      by_cases hil0 : i < n
      · have hil0' : (i : Int) < (n : Int) := by omega
        have hil : i < l.length := by have := HL.out; omega
        have j0 := I1.out i hil
        simp only [Nat.mul_one] at j0
        have cF := (HV.out.ext XW.out).cell hil
        obtain ⟨z, hz⟩ : ∃ z, z = l[i] := ⟨_, rfl⟩
        have hzd : l.getD i (-1) = z := by rw [hz]; simp [hil]
        rw [← hz] at cF
        have HZ := Lib.hid hzd
        have hno : ∀ hx : plStep n l i = false, plOk n l = false := fun hx => plOk_false hil hx
        have HNO := Lib.hid hno
        clear hz hzd hno
        rcases (by omega : z < 0 ∨ (0 ≤ z ∧ (n : Int) ≤ z) ∨ (0 ≤ z ∧ z < (n : Int))) with g | ⟨g, g'⟩ | ⟨g, g'⟩
        case inr.inr =>
         obtain ⟨k, rfl⟩ := Int.eq_ofNat_of_zero_le g
         have hkn : k < n := by omega
         have g1 : ¬ (k : Int) < 0 := by omega
         have g2 : ¬ (n : Int) ≤ (k : Int) := by omega
         have i0 := I0.out k hkn
         simp only [Nat.mul_one] at i0
         have c0 := ho.sl.cell k (atF n l i k) (by simp [hkn])
         unfold atF iv at c0
         have f0 := ho.frozen k (by omega)
         obtain ⟨pk, hpk⟩ : ∃ x, x = posK l i k := ⟨_, rfl⟩
         have hpc := posK_cases l i k
         rw [← hpk] at c0 hpc
         have HPK := Lib.hid hpk
         clear ho md hst hpk g
         rcases hpc with rfl | ⟨q1, q2⟩
         · have HT : Hid (plStep n l i = true) := Lib.hid (by
            unfold plStep
            rw [HZ.out, Int.toNat_natCast, ← HPK.out]
            simp; omega)
           go_wp2_with fail
           go_roundw
           case rel =>
            obtain ⟨ho, md, hst⟩ := H.out
            have os := ho.set (by omega) k (.int .i64 (i : Int))
            have M8 : Mod (fun q => v.ownBlock = some q) wr (wr.setCell (at_ v k) (.int .i64 (i : Int))) := Mod.setCell (F := fun q => v.ownBlock = some q) (Mod.refl _ _) (.inl (ho.at_block (by omega) k)) _
            refine ⟨i + 1, by omega, by go_num, lt_step hst HT.out, ?_, md.trans M8⟩
            have e9 : ((List.range n).map (atF n l i)).set k (.int .i64 (i : Int)) = (List.range n).map (atF n l (i + 1)) := range_map_set (f := atF n l i) (g := atF n l (i + 1)) (i := k) (.int .i64 (i : Int)) hkn (fun j hj hne => by
             unfold atF
             rw [posK_succ, HZ.out]
             by_cases hp : posK l i j = -1
             · rw [if_pos hp, if_neg (by simp; omega), hp]
             · rw [if_neg hp]) (by
             unfold atF iv
             rw [posK_succ, HZ.out, if_pos HPK.out.symm, if_pos (by simp)])
            rw [e9] at os
            exact os
           case measure => simp [intOf]; omega
         · have HF : Hid (plOk n l = false) := Lib.hid (HNO.out (by
            unfold plStep
            rw [HZ.out, Int.toNat_natCast, ← HPK.out]
            simp; omega))
           go_wp2_with fail
           go_ret
           exact ⟨_, rfl, .inr ⟨HF.out, rfl⟩, XW.out⟩
        all_goals
         have HF : Hid (plOk n l = false) := Lib.hid (HNO.out (by
          unfold plStep
          rw [HZ.out]
          simp; omega))
         clear ho md hst
         go_wp2_with fail
         go_ret
         exact ⟨_, rfl, .inr ⟨HF.out, rfl⟩, XW.out⟩
      · have hil' : ¬ (i : Int) < (n : Int) := by omega
        have HI2 : Hid (i = l.length) := Lib.hid (by have := HL.out; omega)
        have HT : Hid (plOk n l = true) := Lib.hid (by
         unfold plOk
         rw [Bool.and_eq_true, decide_eq_true_eq, allN_iff]
         exact ⟨HL.out, fun j hj => hst j (by have := HL.out; omega)⟩)
        clear ho md hst
        go_wp2_with fail
        go_ret
        exact ⟨_, rfl, .inl ⟨HT.out, (by have h1 := H.out.1; have h2 := HI2.out; rw [h2] at h1; exact h1)⟩, XW.out⟩
set_option maxRecDepth 100000 in
set_option maxHeartbeats 1600000 in
theorem rordered_any (w : World) (ve vp : Value) (V : Nat → Vs) (L : Lg) (h : LogIn w ve vp V L) (hsm : SmL L) (hl : L.ev.length ≤ 64) (ov : Value) (l : List Int) (hov : IntsAt w ov l) :
 Calls Tryz.prog 83 #[.agg #[ve, vp], ov] w (NumPost (ordI L l) w) := by
 have HLE := Lib.hid hl
 have HSM := Lib.hid hsm
 have hle : (L.ev.length : Int) ≤ 64 := by omega
 have HOV := Lib.hid hov
 have lo := hov.sl.run_len (P := Tryz.prog) II.und 3
 have hm9 : (l.length : Int) ≤ 9223372036854775807 := by obtain ⟨_, c, _, q1, q2, _⟩ := hov.sl.shape; simp only [maxLen] at q2; omega
 clear hl hsm hov
 have q1 := Sl.cells_eq h.row
 have q2 := Sl.cells_eq h.prow
 have s1 := Sl.run_st (P := Tryz.prog) h.row
 have s2 := Sl.run_st (P := Tryz.prog) h.prow
 obtain ⟨w0, hw0⟩ : ∃ w0, w0 = w.alloc (.cells #[ve, vp] 57) := ⟨_, rfl⟩
 obtain ⟨g0, hg0⟩ : ∃ g, g = w.heap.size := ⟨_, rfl⟩
 have x0 : Ext w w0 := by rw [hw0]; exact (Mod.refl _ _).alloc _
 have b0 : RLogBox w0 g0 ve vp := ⟨by rw [hw0, hg0]; exact heap_alloc_new _ _⟩
 have HW := Lib.hid (And.intro hw0 (And.intro hg0 x0))
 have KE : Hid (∀ w', Ext w0 w' → LogIn w' ve vp V L ∧ RLogBox w' g0 ve vp) := Lib.hid fun w' x => ⟨h.ext (x0.trans x), b0.ext x⟩
 have HI := Lib.hid (h.row.run_idx (P := Tryz.prog) IRe.und IRe.size .i64)
 have HJ := Lib.hid (h.prow.run_idx (P := Tryz.prog) IP.und IP.size .i64)
 have l1 := h.row.run_len (P := Tryz.prog) IRe.und 3
 have l2 := h.prow.run_len (P := Tryz.prog) IP.und 3
 obtain ⟨c0, c1⟩ := b0.cells
 clear hw0 hg0 x0 b0 h
 go_enter Tryz.func83, Tryz.ntmps83
 go_upto_region 1 with fail
 rw [← HW.out.1, ← HW.out.2.1]
 clear s1 s2
 go_wp2_with fail
 refine (rmay_any _ ve vp V L (KE.out _ (Mod.refl _ _)).1 HSM.out).mono ?_
 rintro e w1 ⟨rfl, y1⟩
 clear c0 c1
 cases hm : mayL L with
 | false =>
  have HC : Hid (ordI L l = 0) := Lib.hid (by unfold ordI ordB; rw [hm]; rfl)
  clear hm
  go_wp2_with fail
  go_ret
  exact ⟨by rw [HC.out]; rfl, HW.out.2.2.trans y1⟩
 | true =>
  have HM := Lib.hid hm
  clear hm
  obtain ⟨c0, c1⟩ := (KE.out _ y1).2.cells
  go_wp2_with fail
  refine (rplaces_any _ L.ev.length HLE.out ov l (HOV.out.ext (HW.out.2.2.trans y1))).mono ?_
  rintro e w3 ⟨av, rfl, hpo, y3⟩
  have HX3 := Lib.hid (y1.trans y3)
  clear y1 y3 c0 c1
  obtain ⟨c0, c1⟩ := (KE.out _ HX3.out).2.cells
  rcases hpo with ⟨hok, ho⟩ | ⟨hno, rfl⟩
  case inr =>
   have HC : Hid (ordI L l = 0) := Lib.hid (ord_no hno)
   by_cases h0 : L.ev.length = 0
   · have hll : ((l.length : Int) != 0) = true := by rw [bne_iff_ne]; have := plOk_zero (by rw [← h0]; exact hno); omega
     have l1' : ∀ w', (Builtin.len_ #[55] 3 #[ve]).run Tryz.prog w' = .ok (.int .i64 0) w' := fun w' => by have := l1 w'; rw [h0] at this; exact this
     clear hno h0 l1
     go_wp2_with fail
     go_ret
     exact ⟨by rw [HC.out]; rfl, HW.out.2.2.trans HX3.out⟩
   · have hll : ((0 : Int) != (L.ev.length : Int)) = true := by rw [bne_iff_ne]; omega
     clear hno h0
     go_wp2_with fail
     go_ret
     exact ⟨by rw [HC.out]; rfl, HW.out.2.2.trans HX3.out⟩
  case inl =>
   have HPL := Lib.hid hok
   have hln : ((l.length : Int) != (L.ev.length : Int)) = false := by rw [bne_eq_false_iff_eq, plOk_len hok]
   have HO := Lib.hid ho
   have la := ho.sl.run_len (P := Tryz.prog) II.und 3
   have IA := Lib.hid (ho.sl.run_idx (P := Tryz.prog) II.und II.size .i64)
   clear hok ho
   go_wp2_with fail
   refine (rrbefore_any _ ve vp V L (KE.out _ HX3.out).1 HSM.out HLE.out).mono ?_
   rintro e w4 ⟨rv, R, rfl, hlp⟩
   have hrr := hlp.is
   rw [relN_yes HM.out] at hrr
   have HRR := Lib.hid hrr
   have lr := hrr.len
   have HX4 := Lib.hid (HX3.out.trans hlp.x)
   have HAV := Lib.hid (HO.out.ext hlp.x)
   clear hlp hrr c0 c1
   go_wp2_with fail
   go_loopw [7] (fun s wr => ∃ a : Nat, a ≤ L.ev.length ∧ s = .int .i64 (a : Int) ∧ (∀ x, x < a → ∀ y, y < L.ev.length → ordR L l x y = true) ∧ Ext w4 wr) (fun s _ => L.ev.length - (intOf s).toNat)
   case atStart => exact ⟨0, Nat.zero_le _, rfl, fun j hj => absurd hj (Nat.not_lt_zero _), Mod.refl _ _⟩
   case round =>
    obtain ⟨a, ha, rfl, hn, xx⟩ := hrel
    have HN := Lib.hid hn
    have HX := Lib.hid xx
    clear hn xx
    by_cases hlt : a < L.ev.length
    · have hlt' : (a : Int) < (L.ev.length : Int) := by omega
      go_wp2_with fail
      go_loopw [8] (fun s wr => ∃ b : Nat, b ≤ L.ev.length ∧ s = .int .i64 (b : Int) ∧ (∀ y, y < b → ordR L l a y = true) ∧ Ext w4 wr) (fun s _ => L.ev.length - (intOf s).toNat)
      case atStart => exact ⟨0, Nat.zero_le _, rfl, fun j hj => absurd hj (Nat.not_lt_zero _), HX.out⟩
      case round =>
       obtain ⟨b, hb, rfl, hn, xx⟩ := hrel
       have HN2 := Lib.hid hn
       have HX2 := Lib.hid xx
       clear hn
       by_cases hbl : b < L.ev.length
       · have hbl' : (b : Int) < (L.ev.length : Int) := by omega
         obtain ⟨i1, i2⟩ := HRR.out.idx hlt hbl
         have ia := IA.out a hlt
         have ib := IA.out b hbl
         simp only [Nat.mul_one] at ia ib
         obtain ⟨H, hH⟩ : ∃ H, H = hbB L a b := ⟨_, rfl⟩
         obtain ⟨za, hza⟩ : ∃ z, z = posI l a := ⟨_, rfl⟩
         obtain ⟨zb, hzb⟩ : ∃ z, z = posI l b := ⟨_, rfl⟩
         have HR0 : Hid (ordR L l a b = (!H || decide (za < zb))) := Lib.hid (by rw [hH, hza, hzb]; rfl)
         have HHit : Hid (H = true → zb ≤ za → ordI L l = 0) := Lib.hid fun h1 h2 => ord_hit hlt hbl (by rw [← hH]; exact h1) (by rw [← hza, ← hzb]; exact h2)
         have KF : Hid (∀ w', Ext wr w' → w'.cell? (at_ rv a) = some (R a) ∧ w'.cell? (at_ (R a) b) = some (.bool H) ∧ w'.cell? (at_ av a) = some (.int .i64 za) ∧ w'.cell? (at_ av b) = some (.int .i64 zb)) := Lib.hid fun w' z => by
          obtain ⟨f1, f2, -⟩ := (HRR.out.ext (xx.trans z)).facts hlt hbl
          have h3 := HAV.out.ext (xx.trans z)
          rw [← hH] at f2
          exact ⟨f1, f2, by rw [hza]; exact int_cell h3 hlt, by rw [hzb]; exact int_cell h3 hbl⟩
         clear hH hza hzb xx
         go_upto_region 13 with fail
         cases H with
         | false =>
          have HNN := Lib.hid (lt_step HN2.out (show ordR L l a b = true by rw [HR0.out]; rfl))
          refine wp_region_plan [(0, true), (1, true), (2, true), (3, true), (4, true), (5, true), (6, true), (7, true), (8, true), (9, true), (10, true), (11, true), (12, true), (13, true), (14, true), (15, true), (16, true), (17, true)] (fun w' => w'.cell? (at_ rv a) = some (R a) ∧ w'.cell? (at_ (R a) b) = some (.bool false) ∧ w'.cell? (at_ av a) = some (.int .i64 za) ∧ w'.cell? (at_ av b) = some (.int .i64 zb)) (by kernel_rfl) (by kernel_rfl) (by kernel_rfl) (fun _ d _ _ _ h => by cases d <;> exact h) (KF.out _ (Mod.drew (Mod.refl _ _))) ?_
          simp only [planL, getO]
          iterate 8 (refine plan_take (v := ?_) (by rfl) (fun wS hS => ?_) ?_; rotate_left; (focus ((try dsimp only at hS); go_simp; (try with_reducible rfl); done)); (try simp only [Act.put, List.setIfInBounds_toArray, List.set_cons_zero, List.set_cons_succ]))
          iterate 9 (refine plan_skip (by rfl) ?_; (try simp only [Act.put, List.setIfInBounds_toArray, List.set_cons_zero, List.set_cons_succ]))
          (refine plan_take (v := ?_) (by rfl) (fun wS hS => ?_) ?_; rotate_left; (focus ((try dsimp only at hS); go_simp; (try with_reducible rfl); done)); (try simp only [Act.put, List.setIfInBounds_toArray, List.set_cons_zero, List.set_cons_succ]))
          refine plan_nil ?_
          go_wp2_with fail
          go_roundw
          case rel => exact ⟨b + 1, by omega, by go_num, HNN.out, HX2.out.drew⟩
          case measure => simp [intOf]; omega
         | true =>
          by_cases hz : za < zb
          · have hz' : ¬ zb ≤ za := by omega
            have HNN := Lib.hid (lt_step HN2.out (show ordR L l a b = true by rw [HR0.out]; simpa using hz))
            refine wp_region_plan [(0, true), (1, true), (2, true), (3, true), (4, true), (5, true), (6, true), (7, true), (8, true), (9, true), (10, true), (11, true), (12, true), (13, true), (14, true), (15, true), (16, true), (17, true)] (fun w' => w'.cell? (at_ rv a) = some (R a) ∧ w'.cell? (at_ (R a) b) = some (.bool true) ∧ w'.cell? (at_ av a) = some (.int .i64 za) ∧ w'.cell? (at_ av b) = some (.int .i64 zb)) (by kernel_rfl) (by kernel_rfl) (by kernel_rfl) (fun _ d _ _ _ h => by cases d <;> exact h) (KF.out _ (Mod.drew (Mod.refl _ _))) ?_
            simp only [planL, getO]
            iterate 18 (refine plan_take (v := ?_) (by rfl) (fun wS hS => ?_) ?_; rotate_left; (focus ((try dsimp only at hS); go_simp; (try with_reducible rfl); done)); (try simp only [Act.put, List.setIfInBounds_toArray, List.set_cons_zero, List.set_cons_succ]))
            refine plan_nil ?_
            go_wp2_with fail
            go_roundw
            case rel => exact ⟨b + 1, by omega, by go_num, HNN.out, HX2.out.drew⟩
            case measure => simp [intOf]; omega
          · have hz' : zb ≤ za := by omega
            have HC := Lib.hid (HHit.out rfl hz')
            refine wp_region_plan [(0, true), (1, true), (2, true), (3, true), (4, true), (5, true), (6, true), (7, true), (8, true), (9, true), (10, true), (11, true), (12, true), (13, true), (14, true), (15, true), (16, true), (17, true)] (fun w' => w'.cell? (at_ rv a) = some (R a) ∧ w'.cell? (at_ (R a) b) = some (.bool true) ∧ w'.cell? (at_ av a) = some (.int .i64 za) ∧ w'.cell? (at_ av b) = some (.int .i64 zb)) (by kernel_rfl) (by kernel_rfl) (by kernel_rfl) (fun _ d _ _ _ h => by cases d <;> exact h) (KF.out _ (Mod.drew (Mod.refl _ _))) ?_
            simp only [planL, getO]
            iterate 18 (refine plan_take (v := ?_) (by rfl) (fun wS hS => ?_) ?_; rotate_left; (focus ((try dsimp only at hS); go_simp; (try with_reducible rfl); done)); (try simp only [Act.put, List.setIfInBounds_toArray, List.set_cons_zero, List.set_cons_succ]))
            refine plan_nil ?_
            go_wp2_with fail
            go_ret
            exact ⟨by rw [HC.out]; rfl, HW.out.2.2.trans (HX4.out.trans HX2.out.drew)⟩
       · have hbl' : ¬ (b : Int) < (L.ev.length : Int) := by omega
         have HNN : Hid (∀ x, x < a + 1 → ∀ y, y < L.ev.length → ordR L l x y = true) := Lib.hid (lt_step HN.out (fun y hy => HN2.out y (by omega)))
         clear xx
         go_wp2_with fail
         go_roundw
         case rel => exact ⟨a + 1, by omega, by go_num, HNN.out, HX2.out⟩
         case measure => simp [intOf]; omega
    · have hlt' : ¬ (a : Int) < (L.ev.length : Int) := by omega
      have HC : Hid (ordI L l = -1) := Lib.hid (ord_all HM.out HPL.out fun x y hx hy => HN.out x (by omega) y hy)
      go_wp2_with fail
      go_ret
      exact ⟨by rw [HC.out]; rfl, HW.out.2.2.trans (HX4.out.trans HX.out)⟩
end Go.Proofs.YtbhocahmhmafmaaGreat
