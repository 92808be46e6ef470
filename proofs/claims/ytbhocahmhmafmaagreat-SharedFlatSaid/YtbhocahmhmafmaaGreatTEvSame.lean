/-
  The contract of event.Same, of what it calls. No condition. The contracts of event.alike, event.Same. No condition. The contracts of slices.EqualFunc with event.alike, of event.Same, of renlaw14.Few. No condition.
-/
import Derived.Test.YtbhocahmhmafmaaGreatTEvReads
import Derived.Test.YtbhocahmhmafmaaGreatTBaseA
import Derived.Test.YtbhocahmhmafmaaGreatTEvCopied
namespace Go.Ren
set_option linter.unusedVariables false
def evSame (a b : Ev) : Bool := decide (a.ag = b.ag ∧ a.kind = b.kind ∧ a.seq = b.seq ∧ a.nt = b.nt ∧ a.blk = b.blk ∧ a.at_ = b.at_ ∧ a.size = b.size) && (a.rd == b.rd) && (a.wr == b.wr) && (a.fr == b.fr)
theorem evSame_iff {a b : Ev} : evSame a b = true ↔ a = b := by
 obtain ⟨a1, a2, a3, a4, a5, a6, a7, a8, a9, a10⟩ := a
 obtain ⟨b1, b2, b3, b4, b5, b6, b7, b8, b9, b10⟩ := b
 simp [evSame, and_assoc]
def evsSame (x y : List Ev) : Bool := decide (x.length = y.length) && (List.range x.length).all fun i => evSame (evn x i) (evn y i)
theorem evsSame_iff {x y : List Ev} : evsSame x y = true ↔ x = y := by
 unfold evsSame
 simp only [Bool.and_eq_true, decide_eq_true_eq, List.all_eq_true, List.mem_range, evSame_iff]
 refine ⟨fun ⟨h1, h2⟩ => List.ext_getElem h1 fun i hi hj => ?_, fun h => by subst h; exact ⟨rfl, fun _ _ => rfl⟩⟩
 have := h2 i hi
 rwa [evn_eq hi, evn_eq hj] at this
def lgSame (a b : Lg) : Bool := evsSame a.ev b.ev && (a.pr == b.pr)
theorem lgSame_iff {a b : Lg} : lgSame a b = true ↔ a = b := by
 obtain ⟨a1, a2⟩ := a
 obtain ⟨b1, b2⟩ := b
 simp [lgSame, evsSame_iff]
theorem evsSame_false {x y : List Ev} {i : Nat} (hi : i < x.length) (h : evSame (evn x i) (evn y i) = false) : evsSame x y = false := by
 cases hs : evsSame x y with
 | false => rfl
 | true => have := evsSame_iff.1 hs; subst this; rw [evSame_iff.2 rfl] at h; cases h
end Go.Ren
namespace Go.Proofs.YtbhocahmhmafmaaGreat
open Go.Ren Go.RowKit
set_option linter.unusedVariables false
theorem bequal_any (w : World) (v1 v2 : Value) (a b : List UInt8) (h1 : BytesAt w v1 a) (h2 : BytesAt w v2 b) :
 Calls Tryz.prog 131 #[v1, v2] w fun e w' => e = .returned (.bool (a == b)) ∧ w = w' := by
 have e1 := h1.run_string (P := Tryz.prog) (D := 9) Tryz.underlying68 Tryz.underlying5 Tryz.underlying9
 have e2 := h2.run_string (P := Tryz.prog) (D := 9) Tryz.underlying68 Tryz.underlying5 Tryz.underlying9
 have s1 := str_toList a
 have s2 := str_toList b
 clear h1 h2
 go_enter Tryz.func131, Tryz.ntmps131
 go_wp2
 go_ret
 exact ⟨rfl, rfl⟩
theorem iequal_any (w : World) (v1 v2 : Value) (a b : List Int) (h1 : IntsAt w v1 a) (h2 : IntsAt w v2 b) :
 Calls Tryz.prog 132 #[v1, v2] w fun e w' => e = .returned (.bool (a == b)) ∧ Ext w w' := by
 have l1 := h1.sl.run_len (P := Tryz.prog) II.und 3
 have l2 := h2.sl.run_len (P := Tryz.prog) II.und 3
 have I1 := Lib.hid (h1.sl.run_idx (P := Tryz.prog) II.und II.size .i64)
 have I2 := Lib.hid (h2.sl.run_idx (P := Tryz.prog) II.und II.size .i64)
 have hm : (a.length : Int) ≤ 9223372036854775807 := by obtain ⟨_, c, _, q1, q2, _⟩ := h1.sl.shape; simp only [maxLen] at q2; omega
 obtain ⟨B, hB⟩ : ∃ B, B = (a == b) := ⟨_, rfl⟩
 rw [← hB]
 have HB := Lib.hid hB
 have HV := Lib.hid (And.intro h1 h2)
 clear hB h1 h2
 by_cases hl : a.length = b.length
 case neg =>
  have ht : ((a.length : Int) != (b.length : Int)) = true := by rw [bne_iff_ne]; omega
  have HL := Lib.hid hl; clear hl
  go_enter Tryz.func132, Tryz.ntmps132
  go_wp2
  go_ret
  exact ⟨ret_bool (by rw [HB.out]; exact (beq_eq_false_iff_ne.2 (fun e => HL.out (by rw [e]))).symm), Mod.refl _ _⟩
 case pos =>
  have ht : ((a.length : Int) != (b.length : Int)) = false := by rw [bne_eq_false_iff_eq]; omega
  have HL := Lib.hid hl; clear hl
  go_enter Tryz.func132, Tryz.ntmps132
  go_wp2
  go_loopw [13] (fun i wr => ∃ k : Nat, k ≤ a.length ∧ i = .int .i64 k ∧ a.take k = b.take k ∧ Ext w wr) (fun i _ => a.length - (intOf i).toNat)
  case atStart => exact ⟨0, Nat.zero_le _, rfl, rfl, Mod.refl _ _⟩
  case round =>
   obtain ⟨k, hk, rfl, hp, x⟩ := hrel
   have HP := Lib.hid (And.intro hp x); clear hp
   by_cases hlt : k < a.length
   · have hlt2 : k < b.length := by have := HL.out; omega
     have c1 := (HV.out.1.ext x).cell hlt
     have c2 := (HV.out.2.ext x).cell hlt2
     have j1 := I1.out k hlt
     have j2 := I2.out k hlt2
     simp only [Nat.mul_one] at j1 j2
     have hlt' : (k : Int) < (a.length : Int) := by omega
     clear x
     by_cases hx : a[k] = b[k]
     · have hxx : (a[k] != b[k]) = false := by rw [hx]; simp
       have HX := Lib.hid hx; clear hx
       go_wp2_with fail
       go_quiet (fail)
       go_wp2_with fail
       go_roundw
       case rel => exact ⟨k + 1, by omega, by go_num, take_step HP.out.1 hlt hlt2 HX.out, HP.out.2.drewN nq⟩
       case measure => simp [intOf]; omega
     · have hxx : (a[k] != b[k]) = true := by rw [bne_iff_ne]; exact hx
       have HE := Lib.hid (show (a == b) = false from beq_eq_false_iff_ne.2 (fun e => hx (by subst e; rfl))); clear hx
       go_wp2_with fail
       go_quiet (fail)
       go_wp2_with fail
       go_ret
       exact ⟨ret_bool (by rw [HB.out]; exact HE.out.symm), HP.out.2.drewN nq⟩
   · have hlt' : ¬ (k : Int) < (a.length : Int) := by omega
     have HE : Hid ((a == b) = true) := Lib.hid (by
      have h3 := HP.out.1
      rw [List.take_of_length_le (by omega), List.take_of_length_le (by have := HL.out; omega)] at h3
      rw [h3]; simp)
     clear x
     go_wp2_with fail
     go_ret
     exact ⟨ret_bool (by rw [HB.out]; exact HE.out.symm), HP.out.2⟩
structure PairsAt (w : World) (v : Value) (l : List (Int × Int)) : Prop where
 sl : Sl w v 2 l.length (flat 2 l.length (fun i j => prcell (prn l i) j))
theorem PairsAt.ext {w w' : World} {v : Value} {l : List (Int × Int)} (h : PairsAt w v l) (x : Ext w w') : PairsAt w' v l := ⟨h.sl.ext (by decide) x⟩
theorem PairsAt.cells {w : World} {v : Value} {l : List (Int × Int)} (h : PairsAt w v l) {i : Nat} (hi : i < l.length) : w.cell? (at_ v (i * 2)) = some (.int .i64 l[i].1) ∧ w.cell? ⟨(at_ v (i * 2)).block, (at_ v (i * 2)).off + 1, none⟩ = some (.int .i64 l[i].2) := by
 have g : ∀ j, j < 2 → (flat 2 l.length (fun i j => prcell (prn l i) j))[i * 2 + j]? = some (prcell (prn l i) j) := fun j hj => flat_get (sz := 2) _ hi hj
 rw [← prn_eq hi]
 exact ⟨h.sl.cell _ _ (g 0 (by decide)), h.sl.cell_off (by decide) (g 1 (by decide))⟩
theorem pequal_any (w : World) (v1 v2 : Value) (a b : List (Int × Int)) (h1 : PairsAt w v1 a) (h2 : PairsAt w v2 b) :
 Calls Tryz.prog 72 #[v1, v2] w fun e w' => e = .returned (.bool (a == b)) ∧ Ext w w' := by
 have l1 := h1.sl.run_len (P := Tryz.prog) IP.und 3
 have l2 := h2.sl.run_len (P := Tryz.prog) IP.und 3
 have I1 := Lib.hid (h1.sl.run_idx (P := Tryz.prog) IP.und IP.size .i64)
 have I2 := Lib.hid (h2.sl.run_idx (P := Tryz.prog) IP.und IP.size .i64)
 have hm : (a.length : Int) ≤ 9223372036854775807 := by obtain ⟨_, c, _, q1, q2, _⟩ := h1.sl.shape; simp only [maxLen] at q2; omega
 obtain ⟨B, hB⟩ : ∃ B, B = (a == b) := ⟨_, rfl⟩
 rw [← hB]
 have HB := Lib.hid hB
 have HV := Lib.hid (And.intro h1 h2)
 clear hB h1 h2
 by_cases hl : a.length = b.length
 case neg =>
  have ht : ((a.length : Int) != (b.length : Int)) = true := by rw [bne_iff_ne]; omega
  have HL := Lib.hid hl; clear hl
  go_enter Tryz.func72, Tryz.ntmps72
  go_wp2
  go_ret
  exact ⟨ret_bool (by rw [HB.out]; exact (beq_eq_false_iff_ne.2 (fun e => HL.out (by rw [e]))).symm), Mod.refl _ _⟩
 case pos =>
  have ht : ((a.length : Int) != (b.length : Int)) = false := by rw [bne_eq_false_iff_eq]; omega
  have HL := Lib.hid hl; clear hl
  go_enter Tryz.func72, Tryz.ntmps72
  go_wp2
  go_loopw [13] (fun i wr => ∃ k : Nat, k ≤ a.length ∧ i = .int .i64 k ∧ a.take k = b.take k ∧ Ext w wr) (fun i _ => a.length - (intOf i).toNat)
  case atStart => exact ⟨0, Nat.zero_le _, rfl, rfl, Mod.refl _ _⟩
  case round =>
   obtain ⟨k, hk, rfl, hp, x⟩ := hrel
   have HP := Lib.hid (And.intro hp x); clear hp
   by_cases hlt : k < a.length
   · have hlt2 : k < b.length := by have := HL.out; omega
     obtain ⟨c1, c2⟩ := (HV.out.1.ext x).cells hlt
     obtain ⟨c3, c4⟩ := (HV.out.2.ext x).cells hlt2
     have j1 := I1.out k hlt
     have j2 := I2.out k hlt2
     have hlt' : (k : Int) < (a.length : Int) := by omega
     obtain ⟨A1, hA1⟩ : ∃ A, A = at_ v1 (k * 2) := ⟨_, rfl⟩
     obtain ⟨A2, hA2⟩ : ∃ A, A = at_ v2 (k * 2) := ⟨_, rfl⟩
     rw [← hA1] at c1 c2 j1
     rw [← hA2] at c3 c4 j2
     have hq := run_neq_pair (P := Tryz.prog) (T := 112) (e := 3) Tryz.underlying112 Tryz.underlying3 (by kernel_rfl) a[k].1 a[k].2 b[k].1 b[k].2
     have hg : ∀ (op : BinOp) (x y : Operand) (w' : World), (eqGuard op 112 x y (.agg #[.int .i64 a[k].1, .int .i64 a[k].2]) (.agg #[.int .i64 b[k].1, .int .i64 b[k].2])).run Tryz.prog w' = .ok () w' := fun op x y w' => run_eqGuard_agg w' op _ x y _ _ (by kernel_rfl)
     clear x hA1 hA2
     by_cases hx : a[k] = b[k]
     · have hxx : (a[k].1 == b[k].1 && a[k].2 == b[k].2) = true := by rw [hx]; simp
       rw [hxx] at hq
       have HX := Lib.hid hx; clear hx hxx
       go_wp2_with fail
       go_quiet (fail)
       go_wp2_with fail
       go_roundw
       case rel => exact ⟨k + 1, by omega, by go_num, take_step HP.out.1 hlt hlt2 HX.out, HP.out.2.drewN nq⟩
       case measure => simp [intOf]; omega
     · have hxx : (a[k].1 == b[k].1 && a[k].2 == b[k].2) = false := by
        cases hc : (a[k].1 == b[k].1 && a[k].2 == b[k].2) with
        | false => rfl
        | true => simp at hc; exact absurd (Prod.ext hc.1 hc.2) hx
       rw [hxx] at hq
       have HE := Lib.hid (show (a == b) = false from beq_eq_false_iff_ne.2 (fun e => hx (by subst e; rfl))); clear hx hxx
       go_wp2_with fail
       go_quiet (fail)
       go_wp2_with fail
       go_ret
       exact ⟨ret_bool (by rw [HB.out]; exact HE.out.symm), HP.out.2.drewN nq⟩
   · have hlt' : ¬ (k : Int) < (a.length : Int) := by omega
     have HE : Hid ((a == b) = true) := Lib.hid (by
      have h3 := HP.out.1
      rw [List.take_of_length_le (by omega), List.take_of_length_le (by have := HL.out; omega)] at h3
      rw [h3]; simp)
     clear x
     go_wp2_with fail
     go_ret
     exact ⟨ret_bool (by rw [HB.out]; exact HE.out.symm), HP.out.2⟩
end Go.Proofs.YtbhocahmhmafmaaGreat
namespace Go.Proofs.YtbhocahmhmafmaaGreat
open Go.Ren Go.RowKit
set_option linter.unusedVariables false
set_option maxRecDepth 100000 in
set_option maxHeartbeats 3200000 in
theorem alike_any (w : World) (a b : Ev) (v u : Vs) (ha : EvAt w a v) (hb : EvAt w b u) :
 Calls Tryz.prog 71 #[evV a v, evV b u] w (FPost (evSame a b) w) := by
 obtain ⟨k1, k2, k3, t1, t2, t3⟩ := ev_facts ha
 obtain ⟨k4, k5, k6, t4, t5, t6⟩ := ev_facts hb
 obtain ⟨w0, hw0⟩ : ∃ w0, w0 = (w.alloc (.cells (evArr a v) 70)).alloc (.cells (evArr b u) 70) := ⟨_, rfl⟩
 obtain ⟨g, hg⟩ : ∃ g, g = w.heap.size := ⟨_, rfl⟩
 have x0 : Ext w w0 := by rw [hw0]; exact ((Mod.refl _ _).alloc _).alloc _
 have b0 : EvBox w0 g a v := ⟨by rw [hw0, hg]; exact heap_alloc2_old _ _ _⟩
 have b1 : EvBox w0 (g + 1) b u := ⟨by rw [hw0, hg]; exact heap_alloc2_new _ _ _⟩
 obtain ⟨c0, c1, c2, c3, c4, c5, c6, c7, c8, c9⟩ := b0.cells
 obtain ⟨d0, d1, d2, d3, d4, d5, d6, d7, d8, d9⟩ := b1.cells
 have HW := Lib.hid (And.intro hw0 (And.intro hg (And.intro x0 (And.intro (ha.ext x0) (hb.ext x0)))))
 obtain ⟨B, hB⟩ : ∃ B, B = evSame a b := ⟨_, rfl⟩
 rw [← hB]
 have HB := Lib.hid hB
 clear hB hw0 hg x0 b0 b1 ha hb
 unfold evV
 by_cases hs : a.ag = b.ag ∧ a.kind = b.kind ∧ a.seq = b.seq ∧ a.nt = b.nt ∧ a.blk = b.blk ∧ a.at_ = b.at_ ∧ a.size = b.size
 case neg =>
  have hf : evSame a b = false := by unfold evSame; simp [hs]
  have HF := Lib.hid hf
  clear hf
  have HS := Lib.hid hs
  clear hs
  go_enter Tryz.func71, Tryz.ntmps71
  go_upto_region 1 with fail
  rw [← HW.out.1, ← HW.out.2.1]
  clear t1 t2 t3 t4 t5 t6 k1 k2 k3 k4 k5 k6
  go_wp2_with fail
  all_goals
   first
   | (exfalso; have h := HS.out; simp_all; done)
   | (go_ret; exact ⟨ret_bool (by rw [HB.out]; exact HF.out.symm), HW.out.2.2.1⟩)
 case pos =>
  obtain ⟨h1, h2, h3, h4, h5, h6, h7⟩ := hs
  have n1 : (a.ag == b.ag) = true := by simpa using h1
  have n2 : (a.kind == b.kind) = true := by simpa using h2
  have n3 : (a.seq == b.seq) = true := by simpa using h3
  have n4 : (a.nt == b.nt) = true := by simpa using h4
  have n5 : (a.blk == b.blk) = true := by simpa using h5
  have n6 : (a.at_ == b.at_) = true := by simpa using h6
  have n7 : (a.size == b.size) = true := by simpa using h7
  have he : evSame a b = ((a.rd == b.rd) && (a.wr == b.wr) && (a.fr == b.fr)) := by unfold evSame; simp [h1, h2, h3, h4, h5, h6, h7]
  have HE := Lib.hid he
  clear h1 h2 h3 h4 h5 h6 h7 he
  go_enter Tryz.func71, Tryz.ntmps71
  go_upto_region 1 with fail
  rw [← HW.out.1, ← HW.out.2.1]
  clear t1 t2 t3 t4 t5 t6 k1 k2 k3 k4 k5 k6
  go_wp2_with fail
  refine (bequal_any _ _ _ a.rd b.rd HW.out.2.2.2.1.rd HW.out.2.2.2.2.rd).mono ?_
  rintro r w1 ⟨rfl, rfl⟩
  cases r1 : (a.rd == b.rd) with
  | false =>
   have H1 := Lib.hid r1
   clear r1
   go_wp2_with fail
   go_ret
   exact ⟨ret_bool (by rw [HB.out, HE.out, H1.out]; rfl), HW.out.2.2.1⟩
  | true =>
   have H1 := Lib.hid r1
   clear r1
   go_wp2_with fail
   refine (bequal_any _ _ _ a.wr b.wr HW.out.2.2.2.1.wr HW.out.2.2.2.2.wr).mono ?_
   rintro r w1 ⟨rfl, rfl⟩
   cases r2 : (a.wr == b.wr) with
   | false =>
    have H2 := Lib.hid r2
    clear r2
    go_wp2_with fail
    go_ret
    exact ⟨ret_bool (by rw [HB.out, HE.out, H1.out, H2.out]; rfl), HW.out.2.2.1⟩
   | true =>
    have H2 := Lib.hid r2
    clear r2
    go_wp2_with fail
    refine (iequal_any _ _ _ a.fr b.fr HW.out.2.2.2.1.fr HW.out.2.2.2.2.fr).mono ?_
    rintro r w1 ⟨rfl, x1⟩
    go_wp2_with fail
    go_ret
    exact ⟨ret_bool (by rw [HB.out, HE.out, H1.out, H2.out]; rfl), HW.out.2.2.1.trans x1⟩
end Go.Proofs.YtbhocahmhmafmaaGreat
namespace Go.Proofs.YtbhocahmhmafmaaGreat
open Go.Ren Go.RowKit
set_option linter.unusedVariables false
set_option maxRecDepth 100000 in
set_option maxHeartbeats 1600000 in
theorem evsEqual_any (w : World) (v1 v2 : Value) (V1 V2 : Nat → Vs) (x y : List Ev) (h1 : Sl w v1 10 x.length (flat 10 x.length (fun i j => evcell (evn x i) (V1 i) j))) (h2 : Sl w v2 10 y.length (flat 10 y.length (fun i j => evcell (evn y i) (V2 i) j)))
 (e1 : ∀ i, i < x.length → EvAt w (evn x i) (V1 i)) (e2 : ∀ i, i < y.length → EvAt w (evn y i) (V2 i)) :
 Calls Tryz.prog 70 #[v1, v2, .func (.func 71) #[] #[]] w (FPost (evsSame x y) w) := by
 have l1 := h1.run_len (P := Tryz.prog) IEv.und 3
 have l2 := h2.run_len (P := Tryz.prog) IEv.und 3
 have I1 := Lib.hid (h1.run_idx (P := Tryz.prog) IEv.und IEv.size .i64)
 have I2 := Lib.hid (h2.run_idx (P := Tryz.prog) IEv.und IEv.size .i64)
 have hm : (x.length : Int) ≤ 9223372036854775807 := by obtain ⟨_, c, _, q1, q2, _⟩ := h1.shape; simp only [maxLen] at q2; omega
 have q1 := Sl.cells_eq h1
 have q2 := Sl.cells_eq h2
 obtain ⟨B, hB⟩ : ∃ B, B = evsSame x y := ⟨_, rfl⟩
 rw [← hB]
 have HB := Lib.hid hB
 have HV := Lib.hid (And.intro h1 (And.intro h2 (And.intro e1 e2)))
 clear hB h1 h2 e1 e2
 by_cases hl : x.length = y.length
 case neg =>
  have ht : ((x.length : Int) != (y.length : Int)) = true := by rw [bne_iff_ne]; omega
  have HF : Hid (evsSame x y = false) := Lib.hid (by unfold evsSame; simp [hl])
  clear hl
  go_enter Tryz.func70, Tryz.ntmps70
  go_wp2_with fail
  go_ret
  exact ⟨ret_bool (by rw [HB.out]; exact HF.out.symm), Mod.refl _ _⟩
 case pos =>
  have ht : ((x.length : Int) != (y.length : Int)) = false := by rw [bne_eq_false_iff_eq]; omega
  have HL := Lib.hid hl
  clear hl
  go_enter Tryz.func70, Tryz.ntmps70
  go_wp2_with fail
  go_loopw [17] (fun s wr => ∃ k : Nat, k ≤ x.length ∧ s = .int .i64 (k : Int) ∧ (∀ j, j < k → evSame (evn x j) (evn y j) = true) ∧ Ext w wr) (fun i _ => x.length - (intOf i).toNat)
  case atStart => exact ⟨0, Nat.zero_le _, rfl, fun j hj => absurd hj (Nat.not_lt_zero _), Mod.refl _ _⟩
  case round =>
   obtain ⟨k, hk, rfl, hp, X⟩ := hrel
   have HP := Lib.hid (And.intro hp X)
   clear hp
   by_cases hlt : k < x.length
   · have hlt' : (k : Int) < (x.length : Int) := by omega
     have hlt2 : k < y.length := by have := HL.out; omega
     have j1 := I1.out k hlt
     have j2 := I2.out k hlt2
     have ea := (HV.out.2.2.1 k hlt).ext X
     have eb := (HV.out.2.2.2 k hlt2).ext X
     obtain ⟨c0, c1, c2, c3, c4, c5, c6, c7, c8, c9⟩ := evrow_cells (HV.out.1.ext (by decide) X) hlt
     obtain ⟨w1, hw1⟩ : ∃ w1, w1 = wr.alloc (.cells (evArr (evn x k) (V1 k)) 70) := ⟨_, rfl⟩
     have x1 : Ext wr w1 := by rw [hw1]; exact (Mod.refl _ _).alloc _
     obtain ⟨d0, d1, d2, d3, d4, d5, d6, d7, d8, d9⟩ := evrow_cells (HV.out.2.1.ext (by decide) (X.trans x1)) hlt2
     obtain ⟨a, ha⟩ : ∃ a, a = evn x k := ⟨_, rfl⟩
     obtain ⟨b, hb⟩ : ∃ b, b = evn y k := ⟨_, rfl⟩
     obtain ⟨v, hv⟩ : ∃ v, v = V1 k := ⟨_, rfl⟩
     obtain ⟨u, hu⟩ : ∃ u, u = V2 k := ⟨_, rfl⟩
     obtain ⟨A1, hA1⟩ : ∃ A, A = at_ v1 (k * 10) := ⟨_, rfl⟩
     obtain ⟨A2, hA2⟩ : ∃ A, A = at_ v2 (k * 10) := ⟨_, rfl⟩
     rw [← ha, ← hv] at hw1
     rw [← ha] at c0 c1 c2 c3 c4 c5 c6 ea
     rw [← hb] at d0 d1 d2 d3 d4 d5 d6 eb
     rw [← hv] at c7 c8 c9 ea
     rw [← hu] at d7 d8 d9 eb
     rw [← hA1] at j1 c0 c1 c2 c3 c4 c5 c6 c7 c8 c9
     rw [← hA2] at j2 d0 d1 d2 d3 d4 d5 d6 d7 d8 d9
     obtain ⟨k1, k2, k3, t1, t2, t3⟩ := ev_facts ea
     obtain ⟨k4, k5, k6, t4, t5, t6⟩ := ev_facts eb
     obtain ⟨g1, hg1⟩ : ∃ g, g = wr.heap.size := ⟨_, rfl⟩
     have b1 : EvBox w1 g1 a v := by rw [hw1, hg1]; exact EvBox.of wr a v
     obtain ⟨w2, hw2⟩ : ∃ w2, w2 = w1.alloc (.cells (evArr b u) 70) := ⟨_, rfl⟩
     obtain ⟨g2, hg2⟩ : ∃ g, g = w1.heap.size := ⟨_, rfl⟩
     have x2 : Ext w1 w2 := by rw [hw2]; exact (Mod.refl _ _).alloc _
     have b2 : EvBox w2 g2 b u := by rw [hw2, hg2]; exact EvBox.of w1 b u
     have b1' := b1.ext x2
     have HW := Lib.hid (And.intro hw1 (And.intro hg1 (And.intro hw2 (And.intro hg2 (And.intro (x1.trans x2) (And.intro ha hb))))))
     have HAB := Lib.hid (And.intro (ea.ext (x1.trans x2)) (eb.ext (x1.trans x2)))
     have HBX := Lib.hid (And.intro b1' b2)
     clear ha hb hv hu hA1 hA2 hw1 hg1 hw2 hg2 x1 x2 b1 b2 b1' ea eb X
     go_upto_region 6 with fail
     rw [← HW.out.1, ← HW.out.2.1]
     clear c0 c1 c2 c3 c4 c5 c6 c7 c8 c9
     go_upto_region 7 with fail
     rw [← HW.out.2.2.1, ← HW.out.2.2.2.1]
     clear d0 d1 d2 d3 d4 d5 d6 d7 d8 d9 t1 t2 t3 t4 t5 t6 k1 k2 k3 k4 k5 k6 j1 j2
     obtain ⟨c0, c1, c2, c3, c4, c5, c6, c7, c8, c9⟩ := HBX.out.1.cells
     obtain ⟨d0, d1, d2, d3, d4, d5, d6, d7, d8, d9⟩ := HBX.out.2.cells
     go_wp2_with fail
     refine (alike_any _ a b v u HAB.out.1 HAB.out.2).mono ?_
     rintro r w3 ⟨rfl, x3⟩
     have X3 : Ext w w3 := (HP.out.2.trans HW.out.2.2.2.2.1).trans x3
     cases hr : evSame a b with
     | true =>
      have HT : Hid (evSame (evn x k) (evn y k) = true) := Lib.hid (by rw [← HW.out.2.2.2.2.2.1, ← HW.out.2.2.2.2.2.2]; exact hr)
      have X3' := Lib.hid X3
      clear hr X3 x3
      go_wp2_with fail
      go_roundw
      case rel => exact ⟨k + 1, by omega, by go_num, upto_succ HP.out.1 HT.out, X3'.out⟩
      case measure => simp [intOf]; omega
     | false =>
      have HF := Lib.hid (evsSame_false (y := y) hlt (by rw [← HW.out.2.2.2.2.2.1, ← HW.out.2.2.2.2.2.2]; exact hr))
      clear hr
      go_wp2_with fail
      go_ret
      exact ⟨ret_bool (by rw [HB.out]; exact HF.out.symm), X3⟩
   · have hlt' : ¬ (k : Int) < (x.length : Int) := by omega
     obtain rfl : k = x.length := by omega
     have HT : Hid (evsSame x y = true) := Lib.hid (by
      unfold evsSame
      simp only [Bool.and_eq_true, decide_eq_true_eq, List.all_eq_true, List.mem_range]
      exact ⟨HL.out, HP.out.1⟩)
     clear X
     go_wp2_with fail
     go_ret
     exact ⟨ret_bool (by rw [HB.out]; exact HT.out.symm), HP.out.2⟩
set_option maxRecDepth 100000 in
theorem lsame_any (w : World) (ve vp ue up : Value) (V U : Nat → Vs) (L K : Lg) (h1 : LogIn w ve vp V L) (h2 : LogIn w ue up U K) :
 Calls Tryz.prog 22 #[.agg #[ve, vp], .agg #[ue, up]] w (FPost (lgSame L K) w) := by
 have q1 := Sl.cells_eq h1.row
 have q2 := Sl.cells_eq h1.prow
 have q3 := Sl.cells_eq h2.row
 have q4 := Sl.cells_eq h2.prow
 have s1 := Sl.run_st (P := Tryz.prog) h1.row
 have s2 := Sl.run_st (P := Tryz.prog) h1.prow
 have s3 := Sl.run_st (P := Tryz.prog) h2.row
 have s4 := Sl.run_st (P := Tryz.prog) h2.prow
 obtain ⟨w0, hw0⟩ : ∃ w0, w0 = (w.alloc (.cells #[ve, vp] 48)).alloc (.cells #[ue, up] 48) := ⟨_, rfl⟩
 obtain ⟨g, hg⟩ : ∃ g, g = w.heap.size := ⟨_, rfl⟩
 have x0 : Ext w w0 := by rw [hw0]; exact ((Mod.refl _ _).alloc _).alloc _
 have b0 : LogBox w0 g ve vp := ⟨by rw [hw0, hg]; exact heap_alloc2_old _ _ _⟩
 have b1 : LogBox w0 (g + 1) ue up := ⟨by rw [hw0, hg]; exact heap_alloc2_new _ _ _⟩
 obtain ⟨c0, c1⟩ := b0.cells
 obtain ⟨d0, d1⟩ := b1.cells
 have HW := Lib.hid (And.intro hw0 (And.intro hg (And.intro x0 (And.intro (h1.ext x0) (And.intro (h2.ext x0) (And.intro b0 b1))))))
 obtain ⟨B, hB⟩ : ∃ B, B = lgSame L K := ⟨_, rfl⟩
 rw [← hB]
 have HB := Lib.hid hB
 clear hB hw0 hg x0 b0 b1 h1 h2
 go_enter Tryz.func22, Tryz.ntmps22
 go_upto_region 1 with fail
 rw [← HW.out.1, ← HW.out.2.1]
 clear s1 s2 s3 s4
 go_wp2_with fail
 refine (evsEqual_any _ _ _ V U L.ev K.ev HW.out.2.2.2.1.row HW.out.2.2.2.2.1.row HW.out.2.2.2.1.ev HW.out.2.2.2.2.1.ev).mono ?_
 rintro r w1 ⟨rfl, x1⟩
 clear c0 c1 d0 d1
 obtain ⟨c0, c1⟩ := (HW.out.2.2.2.2.2.1.ext x1).cells
 obtain ⟨d0, d1⟩ := (HW.out.2.2.2.2.2.2.ext x1).cells
 have X1 := HW.out.2.2.1.trans x1
 have p1 : PairsAt w1 vp L.pr := ⟨(HW.out.2.2.2.1.ext x1).prow⟩
 have p2 : PairsAt w1 up K.pr := ⟨(HW.out.2.2.2.2.1.ext x1).prow⟩
 cases hr : evsSame L.ev K.ev with
 | false =>
  have HF : Hid (lgSame L K = false) := Lib.hid (by unfold lgSame; rw [hr]; rfl)
  clear hr
  go_wp2_with fail
  go_ret
  exact ⟨ret_bool (by rw [HB.out]; exact HF.out.symm), X1⟩
 | true =>
  have HT : Hid (lgSame L K = (L.pr == K.pr)) := Lib.hid (by unfold lgSame; rw [hr]; rfl)
  clear hr
  go_wp2_with fail
  refine (pequal_any _ _ _ L.pr K.pr p1 p2).mono ?_
  rintro r w2 ⟨rfl, x2⟩
  go_wp2_with fail
  go_ret
  exact ⟨ret_bool (by rw [HB.out]; exact HT.out.symm), X1.trans x2⟩
end Go.Proofs.YtbhocahmhmafmaaGreat
