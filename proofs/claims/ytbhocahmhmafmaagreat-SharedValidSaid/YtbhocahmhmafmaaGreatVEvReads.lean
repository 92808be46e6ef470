/-
  Logs in memory; the contract of event.reads. No condition.
-/
import Derived.Test.YtbhocahmhmafmaaGreatVEvAt
import Derived.Test.YtbhocahmhmafmaaGreatVPlan
import Derived.Deep.RegionWith
namespace Go.Proofs.YtbhocahmhmafmaaGreat
open Go.Ren Go.RowKit
set_option linter.unusedVariables false
def evcell (e : Ev) (v : Vs) (j : Nat) : Value := (evArr e v).getD j undef
def prcell (p : Int × Int) (j : Nat) : Value := if j = 0 then .int .i64 p.1 else .int .i64 p.2
structure LogIn (w : World) (ve vp : Value) (V : Nat → Vs) (L : Lg) : Prop where
 row : Sl w ve 10 L.ev.length (flat 10 L.ev.length (fun i j => evcell (evn L.ev i) (V i) j))
 ev : ∀ i, i < L.ev.length → EvAt w (evn L.ev i) (V i)
 prow : Sl w vp 2 L.pr.length (flat 2 L.pr.length (fun i j => prcell (prn L.pr i) j))
 pok : ∀ i, i < L.pr.length → I64 (prn L.pr i).1 ∧ I64 (prn L.pr i).2
theorem LogIn.ext {w w' : World} {ve vp : Value} {V : Nat → Vs} {L : Lg} (h : LogIn w ve vp V L) (x : Ext w w') : LogIn w' ve vp V L :=
 ⟨h.row.ext (by decide) x, fun i hi => (h.ev i hi).ext x, h.prow.ext (by decide) x, h.pok⟩
theorem LogIn.cells {w : World} {ve vp : Value} {V : Nat → Vs} {L : Lg} (h : LogIn w ve vp V L) {i : Nat} (hi : i < L.ev.length) :
 w.cell? (at_ ve (i * 10)) = some (.int .i64 (evn L.ev i).ag) ∧ w.cell? ⟨(at_ ve (i * 10)).block, (at_ ve (i * 10)).off + 1, none⟩ = some (.int .i64 (evn L.ev i).kind) ∧ w.cell? ⟨(at_ ve (i * 10)).block, (at_ ve (i * 10)).off + 2, none⟩ = some (.bool (evn L.ev i).seq) ∧
 w.cell? ⟨(at_ ve (i * 10)).block, (at_ ve (i * 10)).off + 3, none⟩ = some (.bool (evn L.ev i).nt) ∧ w.cell? ⟨(at_ ve (i * 10)).block, (at_ ve (i * 10)).off + 4, none⟩ = some (.int .i64 (evn L.ev i).blk) ∧ w.cell? ⟨(at_ ve (i * 10)).block, (at_ ve (i * 10)).off + 5, none⟩ = some (.int .i64 (evn L.ev i).at_) ∧
 w.cell? ⟨(at_ ve (i * 10)).block, (at_ ve (i * 10)).off + 6, none⟩ = some (.int .i64 (evn L.ev i).size) ∧ w.cell? ⟨(at_ ve (i * 10)).block, (at_ ve (i * 10)).off + 7, none⟩ = some (V i).r ∧ w.cell? ⟨(at_ ve (i * 10)).block, (at_ ve (i * 10)).off + 8, none⟩ = some (V i).w ∧ w.cell? ⟨(at_ ve (i * 10)).block, (at_ ve (i * 10)).off + 9, none⟩ = some (V i).f := by
 have g : ∀ j, j < 10 → (flat 10 L.ev.length (fun i j => evcell (evn L.ev i) (V i) j))[i * 10 + j]? = some (evcell (evn L.ev i) (V i) j) := fun j hj => flat_get (sz := 10) _ hi hj
 exact ⟨h.row.cell _ _ (g 0 (by decide)), h.row.cell_off (by decide) (g 1 (by decide)), h.row.cell_off (by decide) (g 2 (by decide)), h.row.cell_off (by decide) (g 3 (by decide)), h.row.cell_off (by decide) (g 4 (by decide)),
  h.row.cell_off (by decide) (g 5 (by decide)), h.row.cell_off (by decide) (g 6 (by decide)), h.row.cell_off (by decide) (g 7 (by decide)), h.row.cell_off (by decide) (g 8 (by decide)), h.row.cell_off (by decide) (g 9 (by decide))⟩
theorem LogIn.pcells {w : World} {ve vp : Value} {V : Nat → Vs} {L : Lg} (h : LogIn w ve vp V L) {i : Nat} (hi : i < L.pr.length) :
 w.cell? (at_ vp (i * 2)) = some (.int .i64 (prn L.pr i).1) ∧ w.cell? ⟨(at_ vp (i * 2)).block, (at_ vp (i * 2)).off + 1, none⟩ = some (.int .i64 (prn L.pr i).2) := by
 have g : ∀ j, j < 2 → (flat 2 L.pr.length (fun i j => prcell (prn L.pr i) j))[i * 2 + j]? = some (prcell (prn L.pr i) j) := fun j hj => flat_get (sz := 2) _ hi hj
 exact ⟨h.prow.cell _ _ (g 0 (by decide)), h.prow.cell_off (by decide) (g 1 (by decide))⟩
structure LogBox (w : World) (g : Nat) (ve vp : Value) : Prop where
 b : w.heap[g]? = some (.cells #[ve, vp] 48 (0, 0))
theorem LogBox.ext {w w' : World} {g : Nat} {ve vp : Value} (h : LogBox w g ve vp) (x : Ext w w') : LogBox w' g ve vp := ⟨x.blk h.b⟩
theorem LogBox.cells {w : World} {g : Nat} {ve vp : Value} (h : LogBox w g ve vp) : w.cell? ⟨g, 0, none⟩ = some ve ∧ w.cell? ⟨g, 1, none⟩ = some vp := by simp [World.cell?, h.b]
theorem evRead1_eq {L : List Ev} {n k : Nat} {e : Ev} (he : e = evn L n) (hk : k < e.fr.length) (hr : k < e.rd.length) : evRead1 L n k =
 if e.fr[k] = -1 then decide (e.rd[k] = 0) else if e.fr[k] < 0 ∨ (n : Int) ≤ e.fr[k] then false else
  wrsB (evn L e.fr[k].toNat) && evCov (evn L e.fr[k].toNat) e.blk (e.at_ + k) && ((evn L e.fr[k].toNat).wr.getD (e.at_ + k - (evn L e.fr[k].toNat).at_).toNat 0 == e.rd[k]) := by
 subst he
 unfold evRead1
 simp only [List.getD_eq_getElem?_getD, List.getElem?_eq_getElem hk, List.getElem?_eq_getElem hr, Option.getD_some]
theorem evReads_false {L : List Ev} {n k : Nat} {e : Ev} (he : e = evn L n) (hk : k < e.fr.length) (h : evRead1 L n k = false) : evReads L n = false := by
 cases hr : evReads L n with
 | false => rfl
 | true => have := evReads_iff.1 hr k (by rw [← he]; exact hk); rw [h] at this; cases this
theorem upto_succ {p : Nat → Prop} {k : Nat} (h : ∀ j, j < k → p j) (hk : p k) : ∀ j, j < k + 1 → p j := fun j hj => by
 by_cases e : j = k
 · subst e; exact hk
 · exact h j (by omega)
theorem u8_ne (a b : UInt8) : ((a.toNat : Int) != (b.toNat : Int)) = !decide (a = b) := by
 rw [Bool.eq_iff_iff]
 simp only [bne_iff_ne, ne_eq, Bool.not_eq_true', decide_eq_false_iff_not, ← UInt8.toNat_inj]
 omega
theorem u8_nz (a : UInt8) : ((a.toNat : Int) != 0) = !decide (a = 0) := by
 have := u8_ne a 0
 rwa [show (((0 : UInt8).toNat : Nat) : Int) = 0 from rfl] at this
set_option maxRecDepth 100000 in
set_option maxHeartbeats 1600000 in
theorem evreads_any (w : World) (ve vp : Value) (V : Nat → Vs) (L : Lg) (h : LogIn w ve vp V L) (n : Nat) (hn : n < L.ev.length) (hf : ∀ i, i ≤ n → evFields (evn L.ev i) = true) (hlen : L.ev.length ≤ 1000) :
 Calls Tryz.prog 75 #[.agg #[ve, vp], .int .i64 (n : Int)] w (FPost (evReads L.ev n) w) := by
 have q1 := Sl.cells_eq h.row
 have q2 := Sl.cells_eq h.prow
 have s1 := Sl.run_st (P := Tryz.prog) h.row
 have s2 := Sl.run_st (P := Tryz.prog) h.prow
 have HI := Lib.hid (h.row.run_idx (P := Tryz.prog) IEv.und IEv.size .i64)
 have i0 := HI.out n hn
 obtain ⟨c0, c1, c2, c3, c4, c5, c6, c7, c8, c9⟩ := h.cells hn
 have he0 := h.ev n hn
 have hfs := evFields_sizes (hf n (Nat.le_refl _))
 obtain ⟨e, he⟩ : ∃ e, e = evn L.ev n := ⟨_, rfl⟩
 obtain ⟨v, hv⟩ : ∃ v, v = V n := ⟨_, rfl⟩
 rw [← he] at c0 c1 c2 c3 c4 c5 c6 he0 hfs
 rw [← hv] at c7 c8 c9 he0
 obtain ⟨k1, k2, k3, t1, t2, t3⟩ := ev_facts he0
 have l3 := he0.fr.sl.run_len (P := Tryz.prog) II.und 3
 obtain ⟨z1, z2, z3, z4, -⟩ := hfs
 have HJ := Lib.hid (he0.fr.sl.run_idx (P := Tryz.prog) II.und II.size .i64)
 have HK := Lib.hid (Sl.run_idx (P := Tryz.prog) he0.rd IB.und IB.size .i64)
 obtain ⟨A, hA⟩ : ∃ A, A = at_ ve (n * 10) := ⟨_, rfl⟩
 rw [← hA] at i0 c0 c1 c2 c3 c4 c5 c6 c7 c8 c9
 obtain ⟨w0, hw0⟩ : ∃ w0, w0 = w.alloc (.cells #[ve, vp] 48) := ⟨_, rfl⟩
 obtain ⟨g0, hg0⟩ : ∃ g, g = w.heap.size := ⟨_, rfl⟩
 obtain ⟨w1, hw1⟩ : ∃ w1, w1 = w0.alloc (.cells (evArr e v) 70) := ⟨_, rfl⟩
 obtain ⟨g1, hg1⟩ : ∃ g, g = w0.heap.size := ⟨_, rfl⟩
 have x0 : Ext w w0 := by rw [hw0]; exact (Mod.refl _ _).alloc _
 have x1 : Ext w0 w1 := by rw [hw1]; exact (Mod.refl _ _).alloc _
 have b0 : LogBox w0 g0 ve vp := ⟨by rw [hw0, hg0]; exact heap_alloc_new _ _⟩
 have b1 : EvBox w1 g1 e v := by rw [hw1, hg1]; exact EvBox.of w0 e v
 have HE := Lib.hid (And.intro he (And.intro hv (And.intro hw0 (And.intro hg0 (And.intro hw1 (And.intro hg1 (And.intro x0 (And.intro x1 (And.intro b0 (And.intro b1 (And.intro h (And.intro he0 (And.intro hf z2)))))))))))))
 have key0 : ∀ w', Ext w w' → w'.cell? A = some (.int .i64 e.ag) ∧ w'.cell? ⟨A.block, A.off + 1, none⟩ = some (.int .i64 e.kind) ∧ w'.cell? ⟨A.block, A.off + 2, none⟩ = some (.bool e.seq) ∧ w'.cell? ⟨A.block, A.off + 3, none⟩ = some (.bool e.nt) ∧ w'.cell? ⟨A.block, A.off + 4, none⟩ = some (.int .i64 e.blk) ∧
  w'.cell? ⟨A.block, A.off + 5, none⟩ = some (.int .i64 e.at_) ∧ w'.cell? ⟨A.block, A.off + 6, none⟩ = some (.int .i64 e.size) ∧ w'.cell? ⟨A.block, A.off + 7, none⟩ = some v.r ∧ w'.cell? ⟨A.block, A.off + 8, none⟩ = some v.w ∧ w'.cell? ⟨A.block, A.off + 9, none⟩ = some v.f :=
  fun w' x => ⟨x.cell c0, x.cell c1, x.cell c2, x.cell c3, x.cell c4, x.cell c5, x.cell c6, x.cell c7, x.cell c8, x.cell c9⟩
 obtain ⟨c0, c1, c2, c3, c4, c5, c6, c7, c8, c9⟩ := key0 w0 x0
 obtain ⟨d0, d1⟩ := b0.cells
 obtain ⟨d0', d1'⟩ := (b0.ext x1).cells
 obtain ⟨a0, a1, a2, a3, a4, a5, a6, a7, a8, a9⟩ := b1.cells
 obtain ⟨B, hB⟩ : ∃ B, B = evReads L.ev n := ⟨_, rfl⟩
 rw [← hB]
 have HB := Lib.hid hB
 clear hB key0 h he hv hA he0 hw0 hg0 hw1 hg1 x0 x1 b0 b1 hf z2
 go_enter Tryz.func75, Tryz.ntmps75
 go_upto_region 1 with fail
 rw [← HE.out.2.2.1, ← HE.out.2.2.2.1]
 go_upto_region 2 with fail
 rw [← HE.out.2.2.2.2.1, ← HE.out.2.2.2.2.2.1]
 go_wp2_with fail
 have KE : Hid (∀ w', Ext w1 w' → LogIn w' ve vp V L ∧ LogBox w' g0 ve vp ∧ EvBox w' g1 e v ∧ EvAt w' e v) := Lib.hid fun w' x =>
  ⟨HE.out.2.2.2.2.2.2.2.2.2.2.1.ext ((HE.out.2.2.2.2.2.2.1.trans HE.out.2.2.2.2.2.2.2.1).trans x), HE.out.2.2.2.2.2.2.2.2.1.ext (HE.out.2.2.2.2.2.2.2.1.trans x), HE.out.2.2.2.2.2.2.2.2.2.1.ext x, HE.out.2.2.2.2.2.2.2.2.2.2.2.1.ext ((HE.out.2.2.2.2.2.2.1.trans HE.out.2.2.2.2.2.2.2.1).trans x)⟩
 have hfr : e.fr.length ≤ 9223372036854775807 := by omega
 clear a0 a1 a2 a3 a4 a5 a6 a7 a8 a9 c0 c1 c2 c3 c4 c5 c6 c7 c8 c9 d0 d1 d0' d1' t1 t2 t3 s1 s2 i0
 go_loopw [17] (fun s17 wr => ∃ k : Nat, k ≤ e.fr.length ∧ s17 = .int .i64 (k : Int) ∧ (∀ j, j < k → evRead1 L.ev n j = true) ∧ Ext w1 wr) (fun i _ => e.fr.length - (intOf i).toNat)
 case atStart => exact ⟨0, Nat.zero_le _, rfl, fun j hj => absurd hj (Nat.not_lt_zero _), Mod.refl _ _⟩
 case round =>
  obtain ⟨k, hk, rfl, hp, x⟩ := hrel
  have HP := Lib.hid (And.intro hp x)
  clear hp
  obtain ⟨hlg, hb0, hb1, hea⟩ := KE.out wr x
  obtain ⟨d0, d1⟩ := hb0.cells
  obtain ⟨a0, a1, a2, a3, a4, a5, a6, a7, a8, a9⟩ := hb1.cells
  clear x
  by_cases hlt : k < e.fr.length
  · have hlt' : (k : Int) < (e.fr.length : Int) := by omega
    have hrl : k < e.rd.length := by have := HE.out.2.2.2.2.2.2.2.2.2.2.2.2.2; omega
    have hr1 := evRead1_eq HE.out.1 hlt hrl
    have i1 := HJ.out k hlt
    have i2 := HK.out k hrl
    simp only [Nat.mul_one] at i1 i2
    have cF := hea.fr.cell hlt
    have cR := BytesAt.cell hea.rd hrl
    have hxi := hea.fr.ok _ (List.getElem_mem hlt)
    obtain ⟨x, hx⟩ : ∃ x, x = e.fr[k] := ⟨_, rfl⟩
    obtain ⟨y, hy⟩ : ∃ y, y = e.rd[k] := ⟨_, rfl⟩
    rw [← hx] at hr1 cF hxi
    rw [← hy] at hr1 cR
    clear hx hy
    by_cases hx1 : x = -1
    · have hx1' : (x == -1) = true := by simpa using hx1
      rw [if_pos hx1] at hr1
      by_cases hy0 : y = 0
      · have hy' : ((y.toNat : Int) != 0) = false := by subst hy0; rfl
        have hr2 : evRead1 L.ev n k = true := by rw [hr1]; simpa using hy0
        have HR := Lib.hid hr2
        clear hr1 hr2 hy0 hx1 hlg hb0 hb1 hea hxi
        go_wp2_with fail
        go_roundw
        case rel => exact ⟨k + 1, by omega, by go_num, upto_succ HP.out.1 HR.out, HP.out.2⟩
        case measure => simp [intOf]; omega
      · have hy' : ((y.toNat : Int) != 0) = true := by rw [u8_nz]; simpa using hy0
        have hr2 : evRead1 L.ev n k = false := by rw [hr1]; simpa using hy0
        have HR := Lib.hid (evReads_false HE.out.1 hlt hr2)
        clear hr1 hr2 hy0 hx1 hlg hb0 hb1 hea hxi
        go_wp2_with fail
        go_ret
        exact ⟨ret_bool (by rw [HB.out]; exact HR.out.symm), (HE.out.2.2.2.2.2.2.1.trans HE.out.2.2.2.2.2.2.2.1).trans HP.out.2⟩
    · have hx1' : (x == -1) = false := by simpa using hx1
      rw [if_neg hx1] at hr1
      by_cases hx2 : x < 0 ∨ (n : Int) ≤ x
      · rw [if_pos hx2] at hr1
        have HR := Lib.hid (evReads_false HE.out.1 hlt hr1)
        clear hr1 hlg hb0 hb1 hea hxi
        by_cases hx3 : x < 0
        · clear hx2
          go_wp2_with fail
          go_ret
          exact ⟨ret_bool (by rw [HB.out]; exact HR.out.symm), (HE.out.2.2.2.2.2.2.1.trans HE.out.2.2.2.2.2.2.2.1).trans HP.out.2⟩
        · have hx4 : (n : Int) ≤ x := by omega
          clear hx2
          go_wp2_with fail
          go_ret
          exact ⟨ret_bool (by rw [HB.out]; exact HR.out.symm), (HE.out.2.2.2.2.2.2.1.trans HE.out.2.2.2.2.2.2.2.1).trans HP.out.2⟩
      · rw [if_neg hx2] at hr1
        obtain ⟨j, rfl⟩ := Int.eq_ofNat_of_zero_le (show 0 ≤ x by omega)
        have hjn : j < n := by omega
        have hx3 : ¬ (j : Int) < 0 := by omega
        have hx4 : ¬ (n : Int) ≤ (j : Int) := by omega
        simp only [Int.toNat_natCast] at hr1
        have i3 := HI.out j (by omega)
        have hfj := evFields_sizes (HE.out.2.2.2.2.2.2.2.2.2.2.2.2.1 j (by omega))
        have hej := hlg.ev j (by omega)
        obtain ⟨c0, c1, c2, c3, c4, c5, c6, c7, c8, c9⟩ := hlg.cells (i := j) (by omega)
        obtain ⟨e2, he2⟩ : ∃ e, e = evn L.ev j := ⟨_, rfl⟩
        obtain ⟨v2, hv2⟩ : ∃ v, v = V j := ⟨_, rfl⟩
        obtain ⟨A2, hA2⟩ : ∃ A, A = at_ ve (j * 10) := ⟨_, rfl⟩
        rw [← hA2] at i3 c0 c1 c2 c3 c4 c5 c6 c7 c8 c9
        rw [← he2] at c0 c1 c2 c3 c4 c5 c6 hfj hr1 hej
        rw [← hv2] at c7 c8 c9 hej
        obtain ⟨m1, m2, m3, u1, u2, u3⟩ := ev_facts hej
        obtain ⟨w2, hw2⟩ : ∃ w2, w2 = wr.alloc (.cells (evArr e2 v2) 70) := ⟨_, rfl⟩
        obtain ⟨g2, hg2⟩ : ∃ g, g = wr.heap.size := ⟨_, rfl⟩
        have x2 : Ext wr w2 := by rw [hw2]; exact (Mod.refl _ _).alloc _
        have b2 : EvBox w2 g2 e2 v2 := by rw [hw2, hg2]; exact EvBox.of wr e2 v2
        have key : ∀ w', Ext w2 w' → (w'.cell? ⟨g2, 0, none⟩ = some (.int .i64 e2.ag) ∧ w'.cell? ⟨g2, 1, none⟩ = some (.int .i64 e2.kind) ∧ w'.cell? ⟨g2, 2, none⟩ = some (.bool e2.seq) ∧ w'.cell? ⟨g2, 3, none⟩ = some (.bool e2.nt) ∧ w'.cell? ⟨g2, 4, none⟩ = some (.int .i64 e2.blk) ∧ w'.cell? ⟨g2, 5, none⟩ = some (.int .i64 e2.at_) ∧ w'.cell? ⟨g2, 6, none⟩ = some (.int .i64 e2.size) ∧ w'.cell? ⟨g2, 7, none⟩ = some v2.r ∧ w'.cell? ⟨g2, 8, none⟩ = some v2.w ∧ w'.cell? ⟨g2, 9, none⟩ = some v2.f ∧ w'.cell? ⟨g1, 4, none⟩ = some (.int .i64 e.blk) ∧ w'.cell? ⟨g1, 5, none⟩ = some (.int .i64 e.at_) ∧ w'.cell? ⟨g1, 7, none⟩ = some v.r) ∧ EvAt w' e2 v2 ∧ EvAt w' e v := fun w' x => by
         have hb := (hb1.ext (x2.trans x)).cells
         obtain ⟨y0, y1, y2, y3, y4, y5, y6, y7, y8, y9⟩ := (b2.ext x).cells
         exact ⟨⟨y0, y1, y2, y3, y4, y5, y6, y7, y8, y9, hb.2.2.2.2.1, hb.2.2.2.2.2.1, hb.2.2.2.2.2.2.2.1⟩, hej.ext (x2.trans x), hea.ext (x2.trans x)⟩
        have KY := Lib.hid key
        have HW := Lib.hid (And.intro hw2 (And.intro hg2 x2))
        have hs1 : IntKind.i64.wrap (e.at_ + (k : Int)) = e.at_ + k := IntWalk.i64_in _ (by omega)
        have hks : I64 (e.at_ + (k : Int)) := by unfold I64; omega
        have HR := Lib.hid (And.intro hr1 (And.intro hfj hks))
        clear hr1 hfj hlg hb0 hb1 hea hej he2 hv2 hA2 hw2 hg2 x2 b2 key hks hxi
        go_upto_region 6 with fail
        rw [← HW.out.1, ← HW.out.2.1]
        clear i1 i2 i3 cF c0 c1 c2 c3 c4 c5 c6 c7 c8 c9 a0 a1 a2 a3 a4 a5 a6 a7 a8 a9 d0 d1 u1 u2 u3
        obtain ⟨⟨c0, c1, c2, c3, c4, c5, c6, c7, c8, c9, a4, a5, a7⟩, -, -⟩ := KY.out w2 (Mod.refl _ _)
        by_cases hwr : wrsB e2 = true
        case neg =>
         have hwf : wrsB e2 = false := by simpa using hwr
         have hr2 : evRead1 L.ev n k = false := by rw [HR.out.1, hwf]; rfl
         have HX := Lib.hid (evReads_false HE.out.1 hlt hr2)
         have HWR := Lib.hid hwf
         clear hwr hwf hr2 HK HJ HI
         refine wp_region_plan [(0, true), (1, false), (2, true), (3, true), (4, true), (5, true), (6, true), (7, true), (8, true), (9, true), (10, true), (11, false), (12, true), (13, true), (14, true), (15, true), (16, true), (17, true), (18, true), (19, true), (20, true), (21, true), (22, true), (23, true), (24, true), (25, true), (26, true), (27, true), (28, true), (29, true), (30, true), (31, true), (32, true)] (fun w' => w'.cell? ⟨g2, 0, none⟩ = some (.int .i64 e2.ag) ∧ w'.cell? ⟨g2, 1, none⟩ = some (.int .i64 e2.kind) ∧ w'.cell? ⟨g2, 2, none⟩ = some (.bool e2.seq) ∧ w'.cell? ⟨g2, 3, none⟩ = some (.bool e2.nt) ∧ w'.cell? ⟨g2, 4, none⟩ = some (.int .i64 e2.blk) ∧ w'.cell? ⟨g2, 5, none⟩ = some (.int .i64 e2.at_) ∧ w'.cell? ⟨g2, 6, none⟩ = some (.int .i64 e2.size) ∧ w'.cell? ⟨g2, 7, none⟩ = some v2.r ∧ w'.cell? ⟨g2, 8, none⟩ = some v2.w ∧ w'.cell? ⟨g2, 9, none⟩ = some v2.f ∧ w'.cell? ⟨g1, 4, none⟩ = some (.int .i64 e.blk) ∧ w'.cell? ⟨g1, 5, none⟩ = some (.int .i64 e.at_) ∧ w'.cell? ⟨g1, 7, none⟩ = some v.r) (by kernel_rfl) (by kernel_rfl) (by kernel_rfl) (fun _ d _ _ _ h => by cases d <;> exact h) ((KY.out _ (Mod.drew (Mod.refl _ _))).1) ?_
         simp only [planL, getO]
         (refine plan_take (v := ?_) (by rfl) (fun wS hS => ?_) ?_; rotate_left; (focus ((try dsimp only at hS); go_simp; (try with_reducible rfl); done)); (try simp only [Act.put, List.setIfInBounds_toArray, List.set_cons_zero, List.set_cons_succ]))
         refine plan_call (fun K hK => ?_)
         go_simp
         go_at_call 129; refine (writes_any _ e2 v2 (KY.out _ (Mod.drew (Mod.refl _ _))).2.1).mono ?_; rintro r w3 ⟨rfl, y3⟩; have y4 : Ext w2 w3 := Mod.trans (Mod.drew (Mod.refl _ _)) y3; rw [HWR.out]
         refine hK.out _ _ ((KY.out _ y4).1) ?_
         clear hK K
         (try simp only [Act.put, List.setIfInBounds_toArray, List.set_cons_zero, List.set_cons_succ])
         iterate 2 (refine plan_take (v := ?_) (by rfl) (fun wS hS => ?_) ?_; rotate_left; (focus ((try dsimp only at hS); go_simp; (try with_reducible rfl); done)); (try simp only [Act.put, List.setIfInBounds_toArray, List.set_cons_zero, List.set_cons_succ]))
         iterate 9 (refine plan_skip (by rfl) ?_; (try simp only [Act.put, List.setIfInBounds_toArray, List.set_cons_zero, List.set_cons_succ]))
         iterate 2 (refine plan_take (v := ?_) (by rfl) (fun wS hS => ?_) ?_; rotate_left; (focus ((try dsimp only at hS); go_simp; (try with_reducible rfl); done)); (try simp only [Act.put, List.setIfInBounds_toArray, List.set_cons_zero, List.set_cons_succ]))
         iterate 17 (refine plan_skip (by rfl) ?_; (try simp only [Act.put, List.setIfInBounds_toArray, List.set_cons_zero, List.set_cons_succ]))
         (refine plan_take (v := ?_) (by rfl) (fun wS hS => ?_) ?_; rotate_left; (focus ((try dsimp only at hS); go_simp; (try with_reducible rfl); done)); (try simp only [Act.put, List.setIfInBounds_toArray, List.set_cons_zero, List.set_cons_succ]))
         refine plan_nil ?_
         go_wp2_with fail
         go_ret
         exact ⟨ret_bool (by rw [HB.out]; exact HX.out.symm), ((HE.out.2.2.2.2.2.2.1.trans HE.out.2.2.2.2.2.2.2.1).trans HP.out.2).trans (HW.out.2.2.trans y4)⟩
        case pos =>
         by_cases hcv : evCov e2 e.blk (e.at_ + k) = true
         case neg =>
          have hcf : evCov e2 e.blk (e.at_ + k) = false := by simpa using hcv
          have hr2 : evRead1 L.ev n k = false := by rw [HR.out.1, hcf, Bool.and_false]; rfl
          have HX := Lib.hid (evReads_false HE.out.1 hlt hr2)
          have HWR := Lib.hid hwr
          have HCV := Lib.hid hcf
          clear hwr hcv hcf hr2 HK HJ HI
          refine wp_region_plan [(0, true), (1, false), (2, true), (3, true), (4, true), (5, true), (6, true), (7, true), (8, true), (9, true), (10, true), (11, false), (12, true), (13, true), (14, true), (15, true), (16, true), (17, true), (18, true), (19, true), (20, true), (21, true), (22, true), (23, true), (24, true), (25, true), (26, true), (27, true), (28, true), (29, true), (30, true), (31, true), (32, true)] (fun w' => w'.cell? ⟨g2, 0, none⟩ = some (.int .i64 e2.ag) ∧ w'.cell? ⟨g2, 1, none⟩ = some (.int .i64 e2.kind) ∧ w'.cell? ⟨g2, 2, none⟩ = some (.bool e2.seq) ∧ w'.cell? ⟨g2, 3, none⟩ = some (.bool e2.nt) ∧ w'.cell? ⟨g2, 4, none⟩ = some (.int .i64 e2.blk) ∧ w'.cell? ⟨g2, 5, none⟩ = some (.int .i64 e2.at_) ∧ w'.cell? ⟨g2, 6, none⟩ = some (.int .i64 e2.size) ∧ w'.cell? ⟨g2, 7, none⟩ = some v2.r ∧ w'.cell? ⟨g2, 8, none⟩ = some v2.w ∧ w'.cell? ⟨g2, 9, none⟩ = some v2.f ∧ w'.cell? ⟨g1, 4, none⟩ = some (.int .i64 e.blk) ∧ w'.cell? ⟨g1, 5, none⟩ = some (.int .i64 e.at_) ∧ w'.cell? ⟨g1, 7, none⟩ = some v.r) (by kernel_rfl) (by kernel_rfl) (by kernel_rfl) (fun _ d _ _ _ h => by cases d <;> exact h) ((KY.out _ (Mod.drew (Mod.refl _ _))).1) ?_
          simp only [planL, getO]
          (refine plan_take (v := ?_) (by rfl) (fun wS hS => ?_) ?_; rotate_left; (focus ((try dsimp only at hS); go_simp; (try with_reducible rfl); done)); (try simp only [Act.put, List.setIfInBounds_toArray, List.set_cons_zero, List.set_cons_succ]))
          refine plan_call (fun K hK => ?_)
          go_simp
          go_at_call 129; refine (writes_any _ e2 v2 (KY.out _ (Mod.drew (Mod.refl _ _))).2.1).mono ?_; rintro r w3 ⟨rfl, y3⟩; have y4 : Ext w2 w3 := Mod.trans (Mod.drew (Mod.refl _ _)) y3; rw [HWR.out]
          refine hK.out _ _ ((KY.out _ y4).1) ?_
          clear hK K
          (try simp only [Act.put, List.setIfInBounds_toArray, List.set_cons_zero, List.set_cons_succ])
          iterate 9 (refine plan_take (v := ?_) (by rfl) (fun wS hS => ?_) ?_; rotate_left; (focus ((try dsimp only at hS); go_simp; (try with_reducible rfl); done)); (try simp only [Act.put, List.setIfInBounds_toArray, List.set_cons_zero, List.set_cons_succ]))
          refine plan_call (fun K hK => ?_)
          go_simp
          go_at_call 134; refine (covers_any _ e2 v2 (KY.out _ y4).2.1 _ _ HR.out.2.2).mono ?_; rintro r w5 ⟨rfl, y5⟩; have y6 : Ext w2 w5 := Mod.trans y4 y5; rw [HCV.out]
          refine hK.out _ _ ((KY.out _ y6).1) ?_
          clear hK K
          (try simp only [Act.put, List.setIfInBounds_toArray, List.set_cons_zero, List.set_cons_succ])
          iterate 3 (refine plan_take (v := ?_) (by rfl) (fun wS hS => ?_) ?_; rotate_left; (focus ((try dsimp only at hS); go_simp; (try with_reducible rfl); done)); (try simp only [Act.put, List.setIfInBounds_toArray, List.set_cons_zero, List.set_cons_succ]))
          iterate 17 (refine plan_skip (by rfl) ?_; (try simp only [Act.put, List.setIfInBounds_toArray, List.set_cons_zero, List.set_cons_succ]))
          (refine plan_take (v := ?_) (by rfl) (fun wS hS => ?_) ?_; rotate_left; (focus ((try dsimp only at hS); go_simp; (try with_reducible rfl); done)); (try simp only [Act.put, List.setIfInBounds_toArray, List.set_cons_zero, List.set_cons_succ]))
          refine plan_nil ?_
          go_wp2_with fail
          go_ret
          exact ⟨ret_bool (by rw [HB.out]; exact HX.out.symm), ((HE.out.2.2.2.2.2.2.1.trans HE.out.2.2.2.2.2.2.2.1).trans HP.out.2).trans (HW.out.2.2.trans y6)⟩
         case pos =>
          obtain ⟨f1, f2, f3, f4, f5, f6, f7, f8, f9, -⟩ := HR.out.2.1
          have hwl := f9 hwr
          have hco := hcv
          unfold evCov withB at hco
          simp only [Bool.and_eq_true, decide_eq_true_eq] at hco
          obtain ⟨p, hpp⟩ : ∃ p : Nat, e.at_ + k - e2.at_ = p := ⟨(e.at_ + k - e2.at_).toNat, by omega⟩
          have hpl : p < e2.wr.length := by omega
          have hs2 : IntKind.i64.wrap (e.at_ + (k : Int) - e2.at_) = (p : Int) := by rw [IntWalk.i64_in _ (by omega)]; exact hpp
          have hr2 : evRead1 L.ev n k = (e2.wr[p] == y) := by
           rw [HR.out.1, hwr, hcv, hpp]
           simp [List.getD_eq_getElem?_getD, List.getElem?_eq_getElem hpl]
          have jw := Sl.run_idx (P := Tryz.prog) (KY.out w2 (Mod.refl _ _)).2.1.wr IB.und IB.size .i64 p hpl
          have jr := HK.out k hrl
          simp only [Nat.mul_one] at jw jr
          have keyC : ∀ w', Ext w2 w' → (w'.cell? (at_ v2.w p) = some (.int .u8 (e2.wr[p].toNat : Int)) ∧ w'.cell? (at_ v.r k) = some (.int .u8 (y.toNat : Int))) := fun w' x =>
           ⟨BytesAt.cell (KY.out w' x).2.1.wr hpl, Ext.cell (HW.out.2.2.trans x) cR⟩
          obtain ⟨cw, cr⟩ := keyC w2 (Mod.refl _ _)
          have KC := Lib.hid keyC
          have HR2 := Lib.hid hr2
          have HWR := Lib.hid hwr
          have HCV := Lib.hid hcv
          have hu := u8_ne e2.wr[p] y
          clear f1 f2 f3 f4 f5 f6 f7 f8 f9 hwl hco hpp hr2 keyC hwr hcv HK HJ HI cR
          have keyS : ∀ w', Ext w2 w' → (w'.cell? ⟨g2, 0, none⟩ = some (.int .i64 e2.ag) ∧ w'.cell? ⟨g2, 1, none⟩ = some (.int .i64 e2.kind) ∧ w'.cell? ⟨g2, 2, none⟩ = some (.bool e2.seq) ∧ w'.cell? ⟨g2, 3, none⟩ = some (.bool e2.nt) ∧ w'.cell? ⟨g2, 4, none⟩ = some (.int .i64 e2.blk) ∧ w'.cell? ⟨g2, 5, none⟩ = some (.int .i64 e2.at_) ∧ w'.cell? ⟨g2, 6, none⟩ = some (.int .i64 e2.size) ∧ w'.cell? ⟨g2, 7, none⟩ = some v2.r ∧ w'.cell? ⟨g2, 8, none⟩ = some v2.w ∧ w'.cell? ⟨g2, 9, none⟩ = some v2.f ∧ w'.cell? ⟨g1, 4, none⟩ = some (.int .i64 e.blk) ∧ w'.cell? ⟨g1, 5, none⟩ = some (.int .i64 e.at_) ∧ w'.cell? ⟨g1, 7, none⟩ = some v.r ∧ w'.cell? (at_ v2.w p) = some (.int .u8 (e2.wr[p].toNat : Int)) ∧ w'.cell? (at_ v.r k) = some (.int .u8 (y.toNat : Int))) := fun w' x => by
           obtain ⟨⟨c0, c1, c2, c3, c4, c5, c6, c7, c8, c9, a4, a5, a7⟩, -, -⟩ := KY.out w' x
           exact ⟨c0, c1, c2, c3, c4, c5, c6, c7, c8, c9, a4, a5, a7, (KC.out w' x).1, (KC.out w' x).2⟩
          have KS := Lib.hid keyS
          clear keyS
          by_cases hey : e2.wr[p] = y
          · have hu2 : ((e2.wr[p].toNat : Int) != (y.toNat : Int)) = false := by rw [hu]; simpa using hey
            have HX : Hid (evRead1 L.ev n k = true) := Lib.hid (by rw [HR2.out]; simpa using hey)
            clear hu hey
            refine wp_region_plan [(0, true), (1, false), (2, true), (3, true), (4, true), (5, true), (6, true), (7, true), (8, true), (9, true), (10, true), (11, false), (12, true), (13, true), (14, true), (15, true), (16, true), (17, true), (18, true), (19, true), (20, true), (21, true), (22, true), (23, true), (24, true), (25, true), (26, true), (27, true), (28, true), (29, true), (30, true), (31, true), (32, true)] (fun w' => w'.cell? ⟨g2, 0, none⟩ = some (.int .i64 e2.ag) ∧ w'.cell? ⟨g2, 1, none⟩ = some (.int .i64 e2.kind) ∧ w'.cell? ⟨g2, 2, none⟩ = some (.bool e2.seq) ∧ w'.cell? ⟨g2, 3, none⟩ = some (.bool e2.nt) ∧ w'.cell? ⟨g2, 4, none⟩ = some (.int .i64 e2.blk) ∧ w'.cell? ⟨g2, 5, none⟩ = some (.int .i64 e2.at_) ∧ w'.cell? ⟨g2, 6, none⟩ = some (.int .i64 e2.size) ∧ w'.cell? ⟨g2, 7, none⟩ = some v2.r ∧ w'.cell? ⟨g2, 8, none⟩ = some v2.w ∧ w'.cell? ⟨g2, 9, none⟩ = some v2.f ∧ w'.cell? ⟨g1, 4, none⟩ = some (.int .i64 e.blk) ∧ w'.cell? ⟨g1, 5, none⟩ = some (.int .i64 e.at_) ∧ w'.cell? ⟨g1, 7, none⟩ = some v.r ∧ w'.cell? (at_ v2.w p) = some (.int .u8 (e2.wr[p].toNat : Int)) ∧ w'.cell? (at_ v.r k) = some (.int .u8 (y.toNat : Int))) (by kernel_rfl) (by kernel_rfl) (by kernel_rfl) (fun _ d _ _ _ h => by cases d <;> exact h) (KS.out _ (Mod.drew (Mod.refl _ _))) ?_
            simp only [planL, getO]
            (refine plan_take (v := ?_) (by rfl) (fun wS hS => ?_) ?_; rotate_left; (focus ((try dsimp only at hS); go_simp; (try with_reducible rfl); done)); (try simp only [Act.put, List.setIfInBounds_toArray, List.set_cons_zero, List.set_cons_succ]))
            refine plan_call (fun K hK => ?_)
            go_simp
            go_at_call 129; refine (writes_any _ e2 v2 (KY.out _ (Mod.drew (Mod.refl _ _))).2.1).mono ?_; rintro r w3 ⟨rfl, y3⟩; have y4 : Ext w2 w3 := Mod.trans (Mod.drew (Mod.refl _ _)) y3; rw [HWR.out]
            refine hK.out _ _ (KS.out _ y4) ?_
            clear hK K
            (try simp only [Act.put, List.setIfInBounds_toArray, List.set_cons_zero, List.set_cons_succ])
            iterate 9 (refine plan_take (v := ?_) (by rfl) (fun wS hS => ?_) ?_; rotate_left; (focus ((try dsimp only at hS); go_simp; (try with_reducible rfl); done)); (try simp only [Act.put, List.setIfInBounds_toArray, List.set_cons_zero, List.set_cons_succ]))
            refine plan_call (fun K hK => ?_)
            go_simp
            go_at_call 134; refine (covers_any _ e2 v2 (KY.out _ y4).2.1 _ _ HR.out.2.2).mono ?_; rintro r w5 ⟨rfl, y5⟩; have y6 : Ext w2 w5 := Mod.trans y4 y5; rw [HCV.out]
            refine hK.out _ _ (KS.out _ y6) ?_
            clear hK K
            (try simp only [Act.put, List.setIfInBounds_toArray, List.set_cons_zero, List.set_cons_succ])
            iterate 21 (refine plan_take (v := ?_) (by rfl) (fun wS hS => ?_) ?_; rotate_left; (focus ((try dsimp only at hS); go_simp; (try with_reducible rfl); done)); (try simp only [Act.put, List.setIfInBounds_toArray, List.set_cons_zero, List.set_cons_succ]))
            refine plan_nil ?_
            go_wp2_with fail
            go_roundw
            case rel => exact ⟨k + 1, by omega, by go_num, upto_succ HP.out.1 HX.out, HP.out.2.trans (HW.out.2.2.trans y6)⟩
            case measure => simp [intOf]; omega
          · have hu2 : ((e2.wr[p].toNat : Int) != (y.toNat : Int)) = true := by rw [hu]; simpa using hey
            have HX := Lib.hid (evReads_false HE.out.1 hlt (by rw [HR2.out]; simpa using hey))
            clear hu hey
            refine wp_region_plan [(0, true), (1, false), (2, true), (3, true), (4, true), (5, true), (6, true), (7, true), (8, true), (9, true), (10, true), (11, false), (12, true), (13, true), (14, true), (15, true), (16, true), (17, true), (18, true), (19, true), (20, true), (21, true), (22, true), (23, true), (24, true), (25, true), (26, true), (27, true), (28, true), (29, true), (30, true), (31, true), (32, true)] (fun w' => w'.cell? ⟨g2, 0, none⟩ = some (.int .i64 e2.ag) ∧ w'.cell? ⟨g2, 1, none⟩ = some (.int .i64 e2.kind) ∧ w'.cell? ⟨g2, 2, none⟩ = some (.bool e2.seq) ∧ w'.cell? ⟨g2, 3, none⟩ = some (.bool e2.nt) ∧ w'.cell? ⟨g2, 4, none⟩ = some (.int .i64 e2.blk) ∧ w'.cell? ⟨g2, 5, none⟩ = some (.int .i64 e2.at_) ∧ w'.cell? ⟨g2, 6, none⟩ = some (.int .i64 e2.size) ∧ w'.cell? ⟨g2, 7, none⟩ = some v2.r ∧ w'.cell? ⟨g2, 8, none⟩ = some v2.w ∧ w'.cell? ⟨g2, 9, none⟩ = some v2.f ∧ w'.cell? ⟨g1, 4, none⟩ = some (.int .i64 e.blk) ∧ w'.cell? ⟨g1, 5, none⟩ = some (.int .i64 e.at_) ∧ w'.cell? ⟨g1, 7, none⟩ = some v.r ∧ w'.cell? (at_ v2.w p) = some (.int .u8 (e2.wr[p].toNat : Int)) ∧ w'.cell? (at_ v.r k) = some (.int .u8 (y.toNat : Int))) (by kernel_rfl) (by kernel_rfl) (by kernel_rfl) (fun _ d _ _ _ h => by cases d <;> exact h) (KS.out _ (Mod.drew (Mod.refl _ _))) ?_
            simp only [planL, getO]
            (refine plan_take (v := ?_) (by rfl) (fun wS hS => ?_) ?_; rotate_left; (focus ((try dsimp only at hS); go_simp; (try with_reducible rfl); done)); (try simp only [Act.put, List.setIfInBounds_toArray, List.set_cons_zero, List.set_cons_succ]))
            refine plan_call (fun K hK => ?_)
            go_simp
            go_at_call 129; refine (writes_any _ e2 v2 (KY.out _ (Mod.drew (Mod.refl _ _))).2.1).mono ?_; rintro r w3 ⟨rfl, y3⟩; have y4 : Ext w2 w3 := Mod.trans (Mod.drew (Mod.refl _ _)) y3; rw [HWR.out]
            refine hK.out _ _ (KS.out _ y4) ?_
            clear hK K
            (try simp only [Act.put, List.setIfInBounds_toArray, List.set_cons_zero, List.set_cons_succ])
            iterate 9 (refine plan_take (v := ?_) (by rfl) (fun wS hS => ?_) ?_; rotate_left; (focus ((try dsimp only at hS); go_simp; (try with_reducible rfl); done)); (try simp only [Act.put, List.setIfInBounds_toArray, List.set_cons_zero, List.set_cons_succ]))
            refine plan_call (fun K hK => ?_)
            go_simp
            go_at_call 134; refine (covers_any _ e2 v2 (KY.out _ y4).2.1 _ _ HR.out.2.2).mono ?_; rintro r w5 ⟨rfl, y5⟩; have y6 : Ext w2 w5 := Mod.trans y4 y5; rw [HCV.out]
            refine hK.out _ _ (KS.out _ y6) ?_
            clear hK K
            (try simp only [Act.put, List.setIfInBounds_toArray, List.set_cons_zero, List.set_cons_succ])
            iterate 21 (refine plan_take (v := ?_) (by rfl) (fun wS hS => ?_) ?_; rotate_left; (focus ((try dsimp only at hS); go_simp; (try with_reducible rfl); done)); (try simp only [Act.put, List.setIfInBounds_toArray, List.set_cons_zero, List.set_cons_succ]))
            refine plan_nil ?_
            go_wp2_with fail
            go_ret
            exact ⟨ret_bool (by rw [HB.out]; exact HX.out.symm), ((HE.out.2.2.2.2.2.2.1.trans HE.out.2.2.2.2.2.2.2.1).trans HP.out.2).trans (HW.out.2.2.trans y6)⟩
  · have hlt' : ¬ (k : Int) < (e.fr.length : Int) := by omega
    obtain rfl : k = e.fr.length := by omega
    clear hlg hb0 hb1 hea
    go_wp2_with fail
    go_ret
    refine ⟨ret_bool ?_, (HE.out.2.2.2.2.2.2.1.trans HE.out.2.2.2.2.2.2.2.1).trans HP.out.2⟩
    rw [HB.out]
    exact (evReads_iff.2 (by rw [← HE.out.1]; exact HP.out.1)).symm
end Go.Proofs.YtbhocahmhmafmaaGreat
