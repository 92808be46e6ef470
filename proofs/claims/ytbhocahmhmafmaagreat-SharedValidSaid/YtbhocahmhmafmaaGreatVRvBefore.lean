/-
  The contract of renref14.Before. No condition.
-/
import Derived.Test.YtbhocahmhmafmaaGreatVRvSync
import Derived.Test.YtbhocahmhmafmaaGreatVRelAt
namespace Go.Ren
def bef1 (L : Lg) (b a x y : Nat) : Bool := if x < y ∧ (y < b ∨ (y = b ∧ x < a)) then stepB L x y else synB L x y
theorem bef1_zero (L : Lg) (x y : Nat) : bef1 L 0 0 x y = synB L x y := by unfold bef1; rw [if_neg (by omega)]
theorem bef1_at (L : Lg) (b a : Nat) : bef1 L b a a b = synB L a b := by unfold bef1; rw [if_neg (by omega)]
theorem bef1_row (L : Lg) (b x y : Nat) : bef1 L b b x y = bef1 L (b + 1) 0 x y := by
 unfold bef1
 by_cases h : x < y ∧ (y < b ∨ (y = b ∧ x < b))
 · rw [if_pos h, if_pos (by omega)]
 · rw [if_neg h, if_neg (by omega)]
theorem bef1_all {L : Lg} {n x y : Nat} (hm : mayL L = true) (hn : n = L.ev.length) (hy : y < n) : bef1 L n 0 x y = stepB L x y := by
 unfold bef1
 by_cases h : x < y ∧ (y < n ∨ (y = n ∧ x < 0))
 · rw [if_pos h]
 · rw [if_neg h]
   have h1 : ¬ x < y := by omega
   have e1 : synB L x y = false := by
    cases hs : synB L x y with
    | false => rfl
    | true => exact absurd (synB_lt hm (by omega) hs) h1
   have e2 : stepB L x y = false := by
    cases hs : stepB L x y with
    | false => rfl
    | true => exact absurd (stepB_lt _ _ hs).1 h1
   rw [e1, e2]
theorem step_at {L : Lg} {a b : Nat} (hab : a < b) (hb : b < L.ev.length) : stepB L a b = (synB L a b || decide ((evn L.ev a).ag = (evn L.ev b).ag)) := by
 unfold stepB; simp [hab, hb, Bool.or_comm]
def bef2 (L : Lg) (c a b x y : Nat) : Bool := if x < a ∨ (x = a ∧ y < b) then hbW (stepB L) (c + 1) x y else hbW (stepB L) c x y
theorem hbW_le {L : Lg} {c x y : Nat} (h : y ≤ c) : hbW (stepB L) (c + 1) x y = hbW (stepB L) c x y := by
 show (hbW (stepB L) c x y || (hbW (stepB L) c x c && hbW (stepB L) c c y)) = _
 have e : hbW (stepB L) c c y = false := by
  cases hs : hbW (stepB L) c c y with
  | false => rfl
  | true => have := (hbW_lt stepB_lt c c y hs).1; omega
 rw [e, Bool.and_false, Bool.or_false]
theorem hbW_ge {L : Lg} {c x y : Nat} (h : c ≤ x) : hbW (stepB L) (c + 1) x y = hbW (stepB L) c x y := by
 show (hbW (stepB L) c x y || (hbW (stepB L) c x c && hbW (stepB L) c c y)) = _
 have e : hbW (stepB L) c x c = false := by
  cases hs : hbW (stepB L) c x c with
  | false => rfl
  | true => have := (hbW_lt stepB_lt c x c hs).1; omega
 rw [e, Bool.false_and, Bool.or_false]
theorem bef2_zero (L : Lg) (c x y : Nat) : bef2 L c 0 0 x y = hbW (stepB L) c x y := by unfold bef2; rw [if_neg (by omega)]
theorem bef2_begin (L : Lg) (c a x y : Nat) : bef2 L c a 0 x y = bef2 L c a (c + 1) x y := by
 unfold bef2
 by_cases h : x < a
 · rw [if_pos (.inl h), if_pos (.inl h)]
 · rw [if_neg (by omega)]
   by_cases h1 : x = a ∧ y < c + 1
   · rw [if_pos (.inr h1), hbW_le (by omega)]
   · rw [if_neg (by omega)]
theorem bef2_ac {L : Lg} {c a b : Nat} : bef2 L c a b a c = hbW (stepB L) c a c := by
 unfold bef2
 split
 · exact hbW_le (Nat.le_refl _)
 · rfl
theorem bef2_no {L : Lg} {c a b x y : Nat} (h : hbW (stepB L) c a c = false) : bef2 L c a b x y = bef2 L c (a + 1) 0 x y := by
 unfold bef2
 by_cases h1 : x < a
 · rw [if_pos (.inl h1), if_pos (by omega)]
 · by_cases h2 : x = a
   · subst h2
     have e : hbW (stepB L) (c + 1) x y = hbW (stepB L) c x y := by
      show (hbW (stepB L) c x y || (hbW (stepB L) c x c && hbW (stepB L) c c y)) = _
      rw [h, Bool.false_and, Bool.or_false]
     rw [if_pos (show x < x + 1 ∨ _ from .inl (by omega)), e]
     split <;> rfl
   · rw [if_neg (by omega), if_neg (by omega)]
theorem bef2_end {L : Lg} {c a b n x y : Nat} (hb : b = n) (hy : y < n) : bef2 L c a b x y = bef2 L c (a + 1) 0 x y := by
 unfold bef2
 by_cases h1 : x < a ∨ (x = a ∧ y < b)
 · rw [if_pos h1, if_pos (by omega)]
 · rw [if_neg h1, if_neg (by omega)]
theorem bef2_row (L : Lg) (c x y : Nat) : bef2 L c c 0 x y = bef2 L (c + 1) 0 0 x y := by
 rw [bef2_zero]
 unfold bef2
 by_cases h1 : x < c
 · rw [if_pos (.inl h1)]
 · rw [if_neg (by omega), hbW_ge (by omega)]
theorem bef2_at {L : Lg} {c a b : Nat} : bef2 L c a b a b = hbW (stepB L) c a b := by unfold bef2; rw [if_neg (by omega)]
theorem bef2_c {L : Lg} {c a b : Nat} (h : a < c) : bef2 L c a b c b = hbW (stepB L) c c b := by unfold bef2; rw [if_neg (by omega)]
end Go.Ren
namespace Go.Proofs.YtbhocahmhmafmaaGreat
open Go.Ren Go.RowKit
set_option linter.unusedVariables false
theorem bef1_put {L : Lg} {b a : Nat} (hab : a < b) (x y : Nat) : updM (bef1 L b a) a b (stepB L a b) x y = bef1 L b (a + 1) x y := by
 unfold updM bef1
 by_cases h : x = a ∧ y = b
 · rw [if_pos h, h.1, h.2, if_pos (by omega)]
 · rw [if_neg h]
   by_cases h1 : x < y ∧ (y < b ∨ (y = b ∧ x < a))
   · rw [if_pos h1, if_pos (by omega)]
   · rw [if_neg h1, if_neg (by omega)]
theorem bef2_put {L : Lg} {c a b : Nat} (h : hbW (stepB L) c a c = true) (x y : Nat) : updM (bef2 L c a b) a b (hbW (stepB L) c a b || hbW (stepB L) c c b) x y = bef2 L c a (b + 1) x y := by
 unfold updM bef2
 by_cases h0 : x = a ∧ y = b
 · rw [if_pos h0, h0.1, h0.2, if_pos (by omega)]
   show _ = (hbW (stepB L) c a b || (hbW (stepB L) c a c && hbW (stepB L) c c b))
   rw [h, Bool.true_and]
 · rw [if_neg h0]
   by_cases h1 : x < a ∨ (x = a ∧ y < b)
   · rw [if_pos h1, if_pos (by omega)]
   · rw [if_neg h1, if_neg (by omega)]
set_option maxRecDepth 100000 in
set_option maxHeartbeats 1600000 in
theorem rrbefore_any (w : World) (ve vp : Value) (V : Nat → Vs) (L : Lg) (h : LogIn w ve vp V L) (hsm : SmL L) (hl : L.ev.length ≤ 64) :
 Calls Tryz.prog 141 #[.agg #[ve, vp]] w (RRPost (relN L) (hbB L) w) := by
 have HSM := Lib.hid hsm
 have HN := Lib.hid hl
 clear hsm hl
 obtain ⟨n, hn⟩ : ∃ n, n = relN L := ⟨_, rfl⟩
 have hn64 : n ≤ 64 := by
  have := HN.out
  rw [hn]; unfold relN; split <;> omega
 have hle : (n : Int) ≤ 64 := by omega
 have HM : Hid (∀ x, x < n → mayL L = true ∧ n = L.ev.length) := Lib.hid fun x hx => by
  cases hm : mayL L with
  | false => rw [hn, relN_no hm] at hx; omega
  | true => exact ⟨rfl, by rw [hn, relN_yes hm]⟩
 rw [← hn]
 have HNN := Lib.hid hn
 clear hn
 have q1 := Sl.cells_eq h.row
 have q2 := Sl.cells_eq h.prow
 have s1 := Sl.run_st (P := Tryz.prog) h.row
 have s2 := Sl.run_st (P := Tryz.prog) h.prow
 obtain ⟨w0, hw0⟩ : ∃ w0, w0 = w.alloc (.cells #[ve, vp] 57) := ⟨_, rfl⟩
 obtain ⟨g0, hg0⟩ : ∃ g, g = w.heap.size := ⟨_, rfl⟩
 have x0 : Ext w w0 := by rw [hw0]; exact (Mod.refl _ _).alloc _
 have b0 : RLogBox w0 g0 ve vp := ⟨by rw [hw0, hg0]; exact heap_alloc_new _ _⟩
 have HW := Lib.hid (And.intro hw0 (And.intro hg0 x0))
 have KE : Hid (∀ w', Ext w0 w' → LogIn w' ve vp V L ∧ RLogBox w' g0 ve vp) := Lib.hid fun w' x => ⟨h.ext (x0.trans x), b0.ext x⟩
 have HI := Lib.hid (h.row.run_idx (P := Tryz.prog) IRe.und IRe.size .i64)
 have HJ := Lib.hid (h.prow.run_idx (P := Tryz.prog) IP.und IP.size .i64)
 have l1 := h.row.run_len (P := Tryz.prog) IRe.und 3
 have l2 := h.prow.run_len (P := Tryz.prog) IP.und 3
 obtain ⟨c0, c1⟩ := b0.cells
 clear hw0 hg0 x0 b0 h
 go_enter Tryz.func141, Tryz.ntmps141
 go_upto_region 1 with fail
 rw [← HW.out.1, ← HW.out.2.1]
 clear s1 s2
 go_wp2_with fail
 refine (rrsyncs_any _ ve vp V L (KE.out _ (Mod.refl _ _)).1 HSM.out HN.out).mono ?_
 rintro e w1 ⟨rv, R, rfl, hlp⟩
 clear c0 c1
 rw [← HNN.out] at hlp
 have ln := hlp.is.len
 have R0 : Hid (RRLoop w0 rv R n (bef1 L 0 0) w1) := Lib.hid (hlp.congr fun a b _ _ => (bef1_zero L a b).symm)
 clear hlp
 go_wp2_with fail
 go_loopw [4] (fun s wr => ∃ b : Nat, b ≤ n ∧ s = .int .i64 (b : Int) ∧ RRLoop w0 rv R n (bef1 L b 0) wr) (fun s _ => n - (intOf s).toNat)
 case atStart => exact ⟨0, Nat.zero_le _, rfl, R0.out⟩
 case round =>
  obtain ⟨b, hb, rfl, hlp⟩ := hrel
  by_cases hbl : b < n
  · have hlt' : (b : Int) < (n : Int) := by omega
    have RA := Lib.hid hlp
    clear hlp
    go_wp2_with fail
    go_loopw [5] (fun s wr => ∃ a : Nat, a ≤ b ∧ s = .int .i64 (a : Int) ∧ RRLoop w0 rv R n (bef1 L b a) wr) (fun s _ => b - (intOf s).toNat)
    case atStart => exact ⟨0, Nat.zero_le _, rfl, RA.out⟩
    case round =>
     obtain ⟨a, ha, rfl, hlp⟩ := hrel
     have HLP := Lib.hid hlp
     clear hlp
     by_cases hab : a < b
     · have hab' : (a : Int) < (b : Int) := by omega
       have hal : a < n := by omega
       have hlb : b < L.ev.length := by have := (HM.out b hbl).2; omega
       have hla : a < L.ev.length := by omega
       have i0 := HI.out a hla
       have i1 := HI.out b hlb
       obtain ⟨p2, hp2⟩ : ∃ e, e = (evn L.ev b).ag := ⟨_, rfl⟩
       obtain ⟨p1, hp1⟩ : ∃ e, e = (evn L.ev a).ag := ⟨_, rfl⟩
       obtain ⟨A1, hA1⟩ : ∃ A, A = at_ ve (a * 10) := ⟨_, rfl⟩
       obtain ⟨A2, hA2⟩ : ∃ A, A = at_ ve (b * 10) := ⟨_, rfl⟩
       obtain ⟨Q0, hQ0⟩ : ∃ Q, Q = synB L a b := ⟨_, rfl⟩
       obtain ⟨T, hT⟩ : ∃ T, T = (p1 == p2) := ⟨_, rfl⟩
       rw [← hA1] at i0
       rw [← hA2] at i1
       have KG : Hid (∀ w', Ext wr w' → (w'.cell? ⟨g0, 0, none⟩ = some ve ∧ w'.cell? A1 = some (.int .i64 p1) ∧ w'.cell? A2 = some (.int .i64 p2) ∧ w'.cell? (at_ rv a) = some (R a) ∧ w'.cell? (at_ (R a) b) = some (.bool Q0)) ∧ w'.frozen? (at_ (R a) b) = false) := Lib.hid fun w' z => by
        have h1 := KE.out _ (HLP.out.x.trans z)
        have h2 := (h1.1.cells hla).1
        have h3 := (h1.1.cells hlb).1
        rw [← hp1, ← hA1] at h2
        rw [← hp2, ← hA2] at h3
        obtain ⟨f1, f2, f3⟩ := (HLP.out.ext z).is.facts hal hbl
        rw [bef1_at, ← hQ0] at f2
        exact ⟨⟨h1.2.cells.1, h2, h3, f1, f2⟩, f3⟩
       have HLAW : Hid ((Q0 || T) = stepB L a b) := Lib.hid (by
        rw [step_at hab hlb, hQ0, hT, hp1, hp2]
        congr 1)
       have HX : Hid (∀ x y, updM (bef1 L b a) a b (stepB L a b) x y = bef1 L b (a + 1) x y) := Lib.hid (bef1_put hab)
       obtain ⟨j1, j2⟩ := HLP.out.is.idx hal hbl
       have hTT := hT.symm
       clear hp1 hp2 hA1 hA2 hQ0 hT
       go_upto_region 8 with fail
       cases Q0 with
       | true =>
        have f0 := (KG.out _ (Mod.refl _ _)).2
        have c0 := (KG.out _ (Mod.refl _ _)).1.2.2.2.2
        refine wp_region_planL [28] [(0, 0), (1, 0), (2, 0), (3, 0), (4, 0), (5, 0), (6, 0), (7, 0), (8, 0), (9, 0), (10, 0), (11, 0), (12, 0), (13, 0), (14, 0), (15, 0), (16, 0), (17, 0), (18, 0), (19, 0), (20, 0), (21, 0), (22, 0), (23, 0), (24, 0), (25, 0), (26, 0), (27, 0), (28, 2)] (fun w' => w'.cell? ⟨g0, 0, none⟩ = some ve ∧ w'.cell? A1 = some (.int .i64 p1) ∧ w'.cell? A2 = some (.int .i64 p2) ∧ w'.cell? (at_ rv a) = some (R a) ∧ w'.cell? (at_ (R a) b) = some (.bool true)) (by kernel_rfl) (by kernel_rfl) (by kernel_rfl) (fun _ d _ _ _ h => by cases d <;> exact h) ((KG.out _ (Mod.drew (Mod.refl _ _))).1) ?_
        simp only [planLL, getO]
        iterate 13 (refine planL_take (v := ?_) (by rfl) (fun wS hS => ?_) ?_; rotate_left; (focus ((try dsimp only at hS); go_simp; (try with_reducible rfl); done)); (try simp only [Act.put, List.setIfInBounds_toArray, List.set_cons_zero, List.set_cons_succ]))
        iterate 13 (refine planL_skip (by rfl) ?_; (try simp only [Act.put, List.setIfInBounds_toArray, List.set_cons_zero, List.set_cons_succ]))
        iterate 2 (refine planL_take (v := ?_) (by rfl) (fun wS hS => ?_) ?_; rotate_left; (focus ((try dsimp only at hS); go_simp; (try with_reducible rfl); done)); (try simp only [Act.put, List.setIfInBounds_toArray, List.set_cons_zero, List.set_cons_succ]))
        refine planL_late (fun K hK => ?_)
        go_simp
        refine hK.out _ _ ?_
        clear hK K
        (try simp only [Act.put, List.setIfInBounds_toArray, List.set_cons_zero, List.set_cons_succ])
        refine planL_nil ?_
        go_wp2_with fail
        go_roundw
        case rel => exact ⟨a + 1, by omega, by go_num, ((HLP.out.put hal hbl (true)).ext (Mod.drew (Mod.refl _ _))).congr fun x y _ _ => by have := HX.out x y; rw [← this, ← HLAW.out]; simp⟩
        case measure => simp [intOf]; omega
       | false =>
        cases T with
        | true =>
         have f0 := (KG.out _ (Mod.refl _ _)).2
         have c0 := (KG.out _ (Mod.refl _ _)).1.2.2.2.2
         refine wp_region_planL [28] [(0, 0), (1, 0), (2, 0), (3, 0), (4, 0), (5, 0), (6, 0), (7, 0), (8, 0), (9, 0), (10, 0), (11, 0), (12, 0), (13, 0), (14, 0), (15, 0), (16, 0), (17, 0), (18, 0), (19, 0), (20, 0), (21, 0), (22, 0), (23, 0), (24, 0), (25, 0), (26, 0), (27, 0), (28, 2)] (fun w' => w'.cell? ⟨g0, 0, none⟩ = some ve ∧ w'.cell? A1 = some (.int .i64 p1) ∧ w'.cell? A2 = some (.int .i64 p2) ∧ w'.cell? (at_ rv a) = some (R a) ∧ w'.cell? (at_ (R a) b) = some (.bool false)) (by kernel_rfl) (by kernel_rfl) (by kernel_rfl) (fun _ d _ _ _ h => by cases d <;> exact h) ((KG.out _ (Mod.drew (Mod.refl _ _))).1) ?_
         simp only [planLL, getO]
         iterate 28 (refine planL_take (v := ?_) (by rfl) (fun wS hS => ?_) ?_; rotate_left; (focus ((try dsimp only at hS); go_simp; (try with_reducible rfl); done)); (try simp only [Act.put, List.setIfInBounds_toArray, List.set_cons_zero, List.set_cons_succ]))
         refine planL_late (fun K hK => ?_)
         go_simp
         refine hK.out _ _ ?_
         clear hK K
         (try simp only [Act.put, List.setIfInBounds_toArray, List.set_cons_zero, List.set_cons_succ])
         refine planL_nil ?_
         go_wp2_with fail
         go_roundw
         case rel => exact ⟨a + 1, by omega, by go_num, ((HLP.out.put hal hbl (true)).ext (Mod.drew (Mod.refl _ _))).congr fun x y _ _ => by have := HX.out x y; rw [← this, ← HLAW.out]; simp⟩
         case measure => simp [intOf]; omega
        | false =>
         have f0 := (KG.out _ (Mod.refl _ _)).2
         have c0 := (KG.out _ (Mod.refl _ _)).1.2.2.2.2
         refine wp_region_planL [28] [(0, 0), (1, 0), (2, 0), (3, 0), (4, 0), (5, 0), (6, 0), (7, 0), (8, 0), (9, 0), (10, 0), (11, 0), (12, 0), (13, 0), (14, 0), (15, 0), (16, 0), (17, 0), (18, 0), (19, 0), (20, 0), (21, 0), (22, 0), (23, 0), (24, 0), (25, 0), (26, 0), (27, 0), (28, 2)] (fun w' => w'.cell? ⟨g0, 0, none⟩ = some ve ∧ w'.cell? A1 = some (.int .i64 p1) ∧ w'.cell? A2 = some (.int .i64 p2) ∧ w'.cell? (at_ rv a) = some (R a) ∧ w'.cell? (at_ (R a) b) = some (.bool false)) (by kernel_rfl) (by kernel_rfl) (by kernel_rfl) (fun _ d _ _ _ h => by cases d <;> exact h) ((KG.out _ (Mod.drew (Mod.refl _ _))).1) ?_
         simp only [planLL, getO]
         iterate 28 (refine planL_take (v := ?_) (by rfl) (fun wS hS => ?_) ?_; rotate_left; (focus ((try dsimp only at hS); go_simp; (try with_reducible rfl); done)); (try simp only [Act.put, List.setIfInBounds_toArray, List.set_cons_zero, List.set_cons_succ]))
         refine planL_late (fun K hK => ?_)
         go_simp
         refine hK.out _ _ ?_
         clear hK K
         (try simp only [Act.put, List.setIfInBounds_toArray, List.set_cons_zero, List.set_cons_succ])
         refine planL_nil ?_
         go_wp2_with fail
         go_roundw
         case rel => exact ⟨a + 1, by omega, by go_num, ((HLP.out.put hal hbl (false)).ext (Mod.drew (Mod.refl _ _))).congr fun x y _ _ => by have := HX.out x y; rw [← this, ← HLAW.out]; simp⟩
         case measure => simp [intOf]; omega
     · have hab' : ¬ (a : Int) < (b : Int) := by omega
       have HK : Hid (a = b) := Lib.hid (by omega)
       go_wp2_with fail
       go_roundw
       case rel => exact ⟨b + 1, by omega, by go_num, HLP.out.congr fun x y _ _ => by have := HK.out; subst this; exact bef1_row L a x y⟩
       case measure => simp [intOf]; omega
  · have hlt' : ¬ (b : Int) < (n : Int) := by omega
    have HK : Hid (b = n) := Lib.hid (by omega)
    have R7 : Hid (RRLoop w0 rv R n (bef2 L 0 0 0) wr) := Lib.hid (hlp.congr fun x y hx hy => by rw [HK.out, bef1_all (HM.out x hx).1 (HM.out x hx).2 hy, bef2_zero]; rfl)
    clear hlp
    go_wp2_with fail
    go_loopw [6] (fun s wr => ∃ c : Nat, c ≤ n ∧ s = .int .i64 (c : Int) ∧ RRLoop w0 rv R n (bef2 L c 0 0) wr) (fun s _ => n - (intOf s).toNat)
    case atStart => exact ⟨0, Nat.zero_le _, rfl, R7.out⟩
    case round =>
     obtain ⟨c, hc, rfl, hlp⟩ := hrel
     have RC := Lib.hid hlp
     clear hlp
     by_cases hcl : c < n
     · have hlt' : (c : Int) < (n : Int) := by omega
       go_wp2_with fail
       go_loopw [7] (fun s wr => ∃ a : Nat, a ≤ c ∧ s = .int .i64 (a : Int) ∧ RRLoop w0 rv R n (bef2 L c a 0) wr) (fun s _ => c - (intOf s).toNat)
       case atStart => exact ⟨0, Nat.zero_le _, rfl, RC.out⟩
       case round =>
        obtain ⟨a, ha, rfl, hlp⟩ := hrel
        have RA := Lib.hid hlp
        clear hlp
        by_cases hac : a < c
        · have hac' : (a : Int) < (c : Int) := by omega
          have hal : a < n := by omega
          have hc1 : IntKind.i64.wrap ((c : Int) + 1) = ((c + 1 : Nat) : Int) := by rw [IntWalk.i64_in _ (by omega)]; omega
          go_wp2_with fail
          go_loopw [8] (fun s wr => ∃ b : Nat, c + 1 ≤ b ∧ b ≤ n ∧ s = .int .i64 (b : Int) ∧ RRLoop w0 rv R n (bef2 L c a b) wr) (fun s _ => n - (intOf s).toNat)
          case atStart => exact ⟨c + 1, Nat.le_refl _, by omega, by go_num, RA.out.congr fun x y _ _ => bef2_begin L c a x y⟩
          case round =>
           obtain ⟨b, hb0, hb, rfl, hlp⟩ := hrel
           have HLP := Lib.hid hlp
           clear hlp
           by_cases hbl : b < n
           · have hbl' : (b : Int) < (n : Int) := by omega
             obtain ⟨f1, f2, -⟩ := HLP.out.is.facts hal hcl
             obtain ⟨j1, j2⟩ := HLP.out.is.idx hal hcl
             rw [bef2_ac] at f2
             obtain ⟨Q2, hQ2⟩ : ∃ Q, Q = hbW (stepB L) c a c := ⟨_, rfl⟩
             rw [← hQ2] at f2
             have HQ2 := Lib.hid hQ2
             clear hQ2
             cases Q2 with
             | false =>
              go_wp2_with fail
              go_roundw
              case rel => exact ⟨a + 1, by omega, by go_num, HLP.out.congr fun x y _ _ => bef2_no HQ2.out.symm⟩
              case measure => simp [intOf]; omega
             | true =>
              obtain ⟨Q0, hQ0⟩ : ∃ Q, Q = hbW (stepB L) c a b := ⟨_, rfl⟩
              obtain ⟨Q1, hQ1⟩ : ∃ Q, Q = hbW (stepB L) c c b := ⟨_, rfl⟩
              have KG : Hid (∀ w', Ext wr w' → (w'.cell? (at_ rv a) = some (R a) ∧ w'.cell? (at_ (R a) b) = some (.bool Q0) ∧ w'.cell? (at_ rv c) = some (R c) ∧ w'.cell? (at_ (R c) b) = some (.bool Q1)) ∧ w'.frozen? (at_ (R a) b) = false) := Lib.hid fun w' z => by
               obtain ⟨f1, f2, f3⟩ := (HLP.out.ext z).is.facts hal hbl
               obtain ⟨f4, f5, -⟩ := (HLP.out.ext z).is.facts hcl hbl
               rw [bef2_at, ← hQ0] at f2
               rw [bef2_c hac, ← hQ1] at f5
               exact ⟨⟨f1, f2, f4, f5⟩, f3⟩
              have HLAW : Hid ((Q0 || Q1) = (hbW (stepB L) c a b || hbW (stepB L) c c b)) := Lib.hid (by rw [hQ0, hQ1])
              have HX : Hid (∀ x y, updM (bef2 L c a b) a b (hbW (stepB L) c a b || hbW (stepB L) c c b) x y = bef2 L c a (b + 1) x y) := Lib.hid (bef2_put HQ2.out.symm)
              obtain ⟨j3, j4⟩ := HLP.out.is.idx hcl hbl
              obtain ⟨-, j5⟩ := HLP.out.is.idx hal hbl
              clear hQ0 hQ1
              go_upto_region 18 with fail
              clear f1 f2
              cases Q0 with
              | true =>
               have f0 := (KG.out _ (Mod.refl _ _)).2
               have c0 := (KG.out _ (Mod.refl _ _)).1.2.1
               refine wp_region_planL [22] [(0, 0), (1, 0), (2, 0), (3, 0), (4, 0), (5, 0), (6, 0), (7, 0), (8, 0), (9, 0), (10, 0), (11, 0), (12, 0), (13, 0), (14, 0), (15, 0), (16, 0), (17, 0), (18, 0), (19, 0), (20, 0), (21, 0), (22, 2)] (fun w' => w'.cell? (at_ rv a) = some (R a) ∧ w'.cell? (at_ (R a) b) = some (.bool true) ∧ w'.cell? (at_ rv c) = some (R c) ∧ w'.cell? (at_ (R c) b) = some (.bool Q1)) (by kernel_rfl) (by kernel_rfl) (by kernel_rfl) (fun _ d _ _ _ h => by cases d <;> exact h) ((KG.out _ (Mod.drew (Mod.refl _ _))).1) ?_
               simp only [planLL, getO]
               iterate 13 (refine planL_take (v := ?_) (by rfl) (fun wS hS => ?_) ?_; rotate_left; (focus ((try dsimp only at hS); go_simp; (try with_reducible rfl); done)); (try simp only [Act.put, List.setIfInBounds_toArray, List.set_cons_zero, List.set_cons_succ]))
               iterate 7 (refine planL_skip (by rfl) ?_; (try simp only [Act.put, List.setIfInBounds_toArray, List.set_cons_zero, List.set_cons_succ]))
               iterate 2 (refine planL_take (v := ?_) (by rfl) (fun wS hS => ?_) ?_; rotate_left; (focus ((try dsimp only at hS); go_simp; (try with_reducible rfl); done)); (try simp only [Act.put, List.setIfInBounds_toArray, List.set_cons_zero, List.set_cons_succ]))
               refine planL_late (fun K hK => ?_)
               go_simp
               refine hK.out _ _ ?_
               clear hK K
               (try simp only [Act.put, List.setIfInBounds_toArray, List.set_cons_zero, List.set_cons_succ])
               refine planL_nil ?_
               go_wp2_with fail
               go_roundw
               case rel => exact ⟨b + 1, by omega, by omega, by go_num, ((HLP.out.put hal hbl (true)).ext (Mod.drew (Mod.refl _ _))).congr fun x y _ _ => by have := HX.out x y; rw [← this, ← HLAW.out]; simp⟩
               case measure => simp [intOf]; omega
              | false =>
               have f0 := (KG.out _ (Mod.refl _ _)).2
               have c0 := (KG.out _ (Mod.refl _ _)).1.2.1
               refine wp_region_planL [22] [(0, 0), (1, 0), (2, 0), (3, 0), (4, 0), (5, 0), (6, 0), (7, 0), (8, 0), (9, 0), (10, 0), (11, 0), (12, 0), (13, 0), (14, 0), (15, 0), (16, 0), (17, 0), (18, 0), (19, 0), (20, 0), (21, 0), (22, 2)] (fun w' => w'.cell? (at_ rv a) = some (R a) ∧ w'.cell? (at_ (R a) b) = some (.bool false) ∧ w'.cell? (at_ rv c) = some (R c) ∧ w'.cell? (at_ (R c) b) = some (.bool Q1)) (by kernel_rfl) (by kernel_rfl) (by kernel_rfl) (fun _ d _ _ _ h => by cases d <;> exact h) ((KG.out _ (Mod.drew (Mod.refl _ _))).1) ?_
               simp only [planLL, getO]
               iterate 22 (refine planL_take (v := ?_) (by rfl) (fun wS hS => ?_) ?_; rotate_left; (focus ((try dsimp only at hS); go_simp; (try with_reducible rfl); done)); (try simp only [Act.put, List.setIfInBounds_toArray, List.set_cons_zero, List.set_cons_succ]))
               refine planL_late (fun K hK => ?_)
               go_simp
               refine hK.out _ _ ?_
               clear hK K
               (try simp only [Act.put, List.setIfInBounds_toArray, List.set_cons_zero, List.set_cons_succ])
               refine planL_nil ?_
               go_wp2_with fail
               go_roundw
               case rel => exact ⟨b + 1, by omega, by omega, by go_num, ((HLP.out.put hal hbl (Q1)).ext (Mod.drew (Mod.refl _ _))).congr fun x y _ _ => by have := HX.out x y; rw [← this, ← HLAW.out]; simp⟩
               case measure => simp [intOf]; omega
           · have hbl' : ¬ (b : Int) < (n : Int) := by omega
             have HK : Hid (b = n) := Lib.hid (by omega)
             go_wp2_with fail
             go_roundw
             case rel => exact ⟨a + 1, by omega, by go_num, HLP.out.congr fun x y _ hy => bef2_end HK.out hy⟩
             case measure => simp [intOf]; omega
        · have hac' : ¬ (a : Int) < (c : Int) := by omega
          have HK : Hid (a = c) := Lib.hid (by omega)
          go_wp2_with fail
          go_roundw
          case rel => exact ⟨c + 1, by omega, by go_num, RA.out.congr fun x y _ _ => by have := HK.out; subst this; exact bef2_row L a x y⟩
          case measure => simp [intOf]; omega
     · have hlt' : ¬ (c : Int) < (n : Int) := by omega
       have HK2 : Hid (c = n) := Lib.hid (by omega)
       go_wp2_with fail
       go_ret
       exact ⟨rv, R, rfl, (RC.out.congr fun x y hx _ => by rw [HK2.out, bef2_zero]; unfold hbB; rw [(HM.out x hx).2]).back HW.out.2.2⟩
end Go.Proofs.YtbhocahmhmafmaaGreat
