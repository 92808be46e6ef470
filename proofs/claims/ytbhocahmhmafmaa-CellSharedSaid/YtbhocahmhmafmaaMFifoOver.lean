/-
  The contract of (*fifo.Queue).Over. No condition.
-/
import Derived.Test.YtbhocahmhmafmaaMFifoAt
import Derived.RegionTactic
import Derived.BigRegion
import Derived.Deep.DeepCutAuto
import Derived.Laws.Bits64
import Derived.WalkMore
namespace Go.Proofs.Ytbhocahmhmafmaa
open Go.Ren Go.RowKit
set_option linter.unusedVariables false

def OverPost (E : List Ent) (k a : Int) (b : List UInt8) (y : List Int) (w : World) (e : Ending) (w' : World) : Prop :=
  ∃ v u, e = .returned (.tuple #[v, u]) ∧ Own w' 5 1 v (qoverB E k a b y).length ((qoverB E k a b y).map bv) ∧ Own w' 3 1 u (qoverY E k a b y).length ((qoverY E k a b y).map iv) ∧ Ext w w' ∧
    (∀ k, v.ownBlock = some k → w.heap.size ≤ k) ∧ (∀ k, u.ownBlock = some k → w.heap.size ≤ k)

theorem u64_sub_in {p a : Int} (h1 : 0 ≤ p ∧ p ≤ 1000) (h2 : I64 a) (h : a ≤ p) : IntKind.u64.wrap (p - IntKind.u64.wrap a) = p - a := by
  rw [IntKind.wrap_u64, IntKind.wrap_u64]
  unfold I64 at h2
  omega

set_option maxRecDepth 100000 in
set_option maxHeartbeats 1600000 in
theorem qover_any (w : World) (p : Value) (room : Nat) (E : List Ent) (S : Nat → Prop) (h : QueueAt w p room E S) (k a : Int) (ha : I64 a) (vb vy : Value) (b : List UInt8) (y : List Int) (hb : BytesAt w vb b) (hy : IntsAt w vy y) (hlb : b.length ≤ 1000000) (hly : y.length ≤ 1000000) :
    Calls Try.prog 38 #[p, .int .i64 k, .int .i64 a, vb, vy] w (OverPost E k a b y w) := by
  obtain ⟨pq, lv, V, rfl, hin, hS⟩ := h.ex
  clear hS h
  have l0 := hin.row.sl.run_len (P := Try.prog) IE.und 3
  have hcnt := hin.cnt
  have hrng := hin.rng
  go_enter Try.func38, Try.ntmps38
  go_wp2_with fail
  go_step3
  go_wp2_with fail
  refine (clone_bytes _ _ b hb hlb).mono ?_
  rintro e w1 ⟨v1, rfl, o1, x1, f1⟩
  go_wp2_with fail
  refine (clone_ints _ _ y (hy.ext x1) hly).mono ?_
  rintro e w2 ⟨y2, rfl, o2, x2, f2⟩
  rw [List.length_map] at o1 o2
  have ov := o1.ext x2
  have X2 := x1.trans x2
  have f2' : ∀ q, y2.ownBlock = some q → w.heap.size ≤ q := fun q hq => Nat.le_trans x1.size (f2 q hq)
  have lv1 := ov.sl.run_len (P := Try.prog) IB.und 3
  have ly2 := o2.sl.run_len (P := Try.prog) II.und 3
  have HO := Lib.hid (And.intro ov (And.intro o2 (And.intro X2 (And.intro f1 f2'))))
  have HIN := Lib.hid hin
  have HY := Lib.hid hy.ok
  have q1 := Ext.cell X2 hin.c1
  clear o1 o2 x1 x2 ov X2 f1 f2 f2' hin hb hy
  by_cases hl : b.length = y.length
  case neg =>
    have hl' : ((b.length : Int) != (y.length : Int)) = true := by rw [bne_iff_ne]; omega
    have e1 : qoverB E k a b y = b := by unfold qoverB; rw [if_neg hl]
    have e2 : qoverY E k a b y = y := by unfold qoverY; rw [if_neg hl]
    have HE := Lib.hid (And.intro e1 e2)
    clear e1 e2 hl
    go_wp2_with fail
    try rw [Exit.noGoto_ret]
    go_ret2
    exact ⟨_, _, rfl, by rw [HE.out.1]; exact HO.out.1, by rw [HE.out.2]; exact HO.out.2.1, HO.out.2.2.1, HO.out.2.2.2.1, HO.out.2.2.2.2⟩
  case pos =>
    have hl' : ((b.length : Int) != (y.length : Int)) = false := by rw [bne_eq_false_iff_eq]; omega
    have e1 : qoverB E k a b y = overB E k a b := by unfold qoverB; rw [if_pos hl]
    have e2 : qoverY E k a b y = overY E k a y := by unfold qoverY; rw [if_pos hl]
    have HE := Lib.hid (And.intro e1 e2)
    have HL := Lib.hid hl
    clear e1 e2 hl
    go_wp2_with fail
    go_step3
    go_wp2_with fail
    go_loopw [34] (fun s34 wr => ∃ i : Nat, i ≤ E.length ∧ s34 = .int .i64 (i : Int) ∧ Mod (fun q => v1.ownBlock = some q ∨ y2.ownBlock = some q) w2 wr ∧
      Own wr 5 1 v1 b.length ((overB (E.take i) k a b).map bv) ∧ Own wr 3 1 y2 y.length ((overY (E.take i) k a y).map iv)) (fun i _ => E.length - (intOf i).toNat)
    case atStart => exact ⟨0, Nat.zero_le _, rfl, Mod.refl _ _, by rw [List.take_zero]; exact HO.out.1, by rw [List.take_zero]; exact HO.out.2.1⟩
    case round =>
      obtain ⟨i, hi, rfl, xr, ob, oy⟩ := hrel
      by_cases hlt : i < E.length
      · have hlt' : (i : Int) < (E.length : Int) := by omega
        have i0 := HIN.out.row.sl.run_idx (P := Try.prog) IE.und IE.size .i64 i hlt
        have hF : ∀ q, (v1.ownBlock = some q ∨ y2.ownBlock = some q) → w.heap.size ≤ q := fun q h => h.elim (HO.out.2.2.2.1 q) (HO.out.2.2.2.2 q)
        have XR : Ext w wr := HO.out.2.2.1.trans' xr (fun q h => .inr (hF q h))
        have hinr := HIN.out.mod XR (fun _ _ h => h)
        obtain ⟨c0, c1, c2, c3, c4⟩ := hinr.cells hlt
        have hb := hinr.bs i hlt
        have hok := hinr.ok i hlt
        obtain ⟨⟨bl, ea, eb, by_, te⟩, he⟩ : ∃ e, e = ent E i := ⟨_, rfl⟩
        have sB := overB_snoc E i hlt k a b
        have sY := overY_snoc E i hlt k a y
        rw [← he] at c0 c1 c3 c4 hb hok sB sY
        simp only at c0 c1 c3 c4 hb sB sY
        have k1 := Sl.cells_eq hb
        have t1 := Sl.run_st (P := Try.prog) hb
        obtain ⟨w0, hw0⟩ : ∃ w0, w0 = wr.alloc (.cells #[.int .i64 bl, .int .i64 ea, V i, .int .i64 by_, .bool te] 73) := ⟨_, rfl⟩
        obtain ⟨g, hg⟩ : ∃ g, g = wr.heap.size := ⟨_, rfl⟩
        have x0 : Ext wr w0 := by rw [hw0]; exact (Mod.refl _ _).alloc _
        have h0 : w0.heap[g]? = some (.cells #[.int .i64 bl, .int .i64 ea, V i, .int .i64 by_, .bool te] 73 (0, 0)) := by rw [hw0, hg]; simp only [heap_alloc_if, if_true]
        have hgF : ¬ (v1.ownBlock = some g ∨ y2.ownBlock = some g) := fun h => h.elim (fun h => by have := ob.lt h; omega) (fun h => by have := oy.lt h; omega)
        have ob0 := ob.ext x0
        have oy0 := oy.ext x0
        have hfpV : ∀ q, fp (V i) q → ¬ (v1.ownBlock = some q ∨ y2.ownBlock = some q) := fun q hq h => by have := Sl.lt (HIN.out.bs i hlt) (by decide) hq; have := hF q h; omega
        have hb0 := BytesAt.ext hb x0
        have le := Sl.run_len (P := Try.prog) hb IB.und 3
        have M0 : Mod (fun q => v1.ownBlock = some q ∨ y2.ownBlock = some q) w2 w0 := xr.ext x0
        have HG := Lib.hid (And.intro hw0 hg)
        have H0 := Lib.hid (And.intro h0 (And.intro hgF (And.intro hb0 (And.intro hfpV M0))))
        have HS := Lib.hid (And.intro sB sY)
        have OO := Lib.hid (And.intro ob0 oy0)
        have hbl := hok.len
        have hat := hok.at_
        have hyb : I64 by_ := by have := hok.by_; simp only at this; unfold I64; omega
        simp only at hbl hat
        have HYB := Lib.hid hyb
        obtain ⟨d0, d1, d2, d3⟩ : w0.cell? ⟨g, 0, none⟩ = some (.int .i64 bl) ∧ w0.cell? ⟨g, 1, none⟩ = some (.int .i64 ea) ∧ w0.cell? ⟨g, 2, none⟩ = some (V i) ∧ w0.cell? ⟨g, 3, none⟩ = some (.int .i64 by_) := by simp [World.cell?, h0]
        clear he sB sY hw0 hg x0 h0 ob oy hb hb0 hinr XR xr M0 ob0 oy0 hyb hok hF hfpV hgF
        go_upto_region 7 with fail
        rw [← HG.out.1, ← HG.out.2]
        by_cases hk : bl = k
        · have hk' : (bl != k) = false := by rw [bne_eq_false_iff_eq]; exact hk
          obtain ⟨B0, hB0⟩ : ∃ B0, B0 = overB (E.take i) k a b := ⟨_, rfl⟩
          obtain ⟨Y0, hY0⟩ : ∃ Y0, Y0 = overY (E.take i) k a y := ⟨_, rfl⟩
          have lB : B0.length = b.length := by rw [hB0]; exact overB_len _ _ _ _
          have lY : Y0.length = y.length := by rw [hY0]; exact overY_len _ _ _ _
          have HBY := Lib.hid (And.intro hB0 hY0)
          rw [← hB0, ← hY0] at OO
          clear hB0 hY0 c0 c1 c2 c3 c4 k1 t1
          go_wp2_with fail
          go_loopw [45] (fun s45 wz => ∃ j : Nat, j ≤ eb.length ∧ s45 = .int .i64 (j : Int) ∧ Mod (fun q => v1.ownBlock = some q ∨ y2.ownBlock = some q) w0 wz ∧
            Own wz 5 1 v1 b.length ((layB ea (eb.take j) a B0).map bv) ∧ Own wz 3 1 y2 y.length ((layY ea j by_ a Y0).map iv)) (fun j _ => eb.length - (intOf j).toNat)
          case atStart => exact ⟨0, Nat.zero_le _, rfl, Mod.refl _ _, by rw [List.take_zero, layB_nil]; exact OO.out.1, by rw [layY_nil]; exact OO.out.2⟩
          case round =>
            obtain ⟨j, hj, rfl, xz, ob, oy⟩ := hrel
            by_cases hjl : j < eb.length
            · have hjl' : (j : Int) < (eb.length : Int) := by omega
              have iV := Sl.run_idx (P := Try.prog) H0.out.2.2.1 IB.und IB.size .i64 j hjl
              simp only [Nat.mul_one] at iV
              have hbr := BytesAt.mod H0.out.2.2.1 xz (fun q hq => H0.out.2.2.2.1 q hq)
              have cV : wr.cell? (at_ (V i) j) = some (.int .u8 (eb[j].toNat : Int)) := BytesAt.cell hbr hjl
              have hgr := xz.blk H0.out.1 H0.out.2.1
              obtain ⟨d1, d3⟩ : wr.cell? ⟨g, 1, none⟩ = some (.int .i64 ea) ∧ wr.cell? ⟨g, 3, none⟩ = some (.int .i64 by_) := by simp [World.cell?, hgr]
              have hpl : IntKind.i64.wrap (ea + (j : Int)) = ea + j := IntWalk.i64_in _ (by omega)
              have hpu : IntKind.u64.wrap (ea + (j : Int)) = ea + j := IntWalk.u64_in _ (by omega)
              have HGR := Lib.hid hgr
              clear hbr hgr
              rcases (by omega : ea + (j : Int) < a ∨ (a ≤ ea + (j : Int) ∧ a + b.length ≤ ea + (j : Int)) ∨ (a ≤ ea + (j : Int) ∧ ea + (j : Int) < a + b.length)) with hp | ⟨hp, hq⟩ | ⟨hp, hq⟩
              · have HF := Lib.hid (And.intro xz (And.intro ob oy))
                clear xz ob oy
                go_wp2_with fail
                refine ⟨⟨_, _, _, _, _, ⟨j + 1, by omega, by go_num, HF.out.1, by rw [layB_out (.inl hp)]; exact HF.out.2.1, by rw [layY_out (.inl hp)]; exact HF.out.2.2⟩, rfl, rfl, rfl, rfl, rfl⟩, ?_⟩
                simp [intOf]; omega
              · have HF := Lib.hid (And.intro xz (And.intro ob oy))
                have hsub : IntKind.u64.wrap (ea + (j : Int) - IntKind.u64.wrap a) = ea + j - a := u64_sub_in (by omega) ha hp
                have hbu : IntKind.u64.wrap (b.length : Int) = b.length := IntWalk.u64_in _ (by omega)
                have hnl : ¬ (ea + (j : Int) - a < (b.length : Int)) := by omega
                clear xz ob oy
                go_wp2_with fail
                go_roundw
                case rel => exact ⟨j + 1, by omega, by go_num, HF.out.1, by rw [layB_out (.inr (by omega))]; exact HF.out.2.1, by rw [layY_out (.inr (by have := HL.out; omega))]; exact HF.out.2.2⟩
                case measure => simp [intOf]; omega
              · have hsub : IntKind.u64.wrap (ea + (j : Int) - IntKind.u64.wrap a) = ea + j - a := u64_sub_in (by omega) ha hp
                have hbu : IntKind.u64.wrap (b.length : Int) = b.length := IntWalk.u64_in _ (by omega)
                obtain ⟨z, hz⟩ : ∃ z : Nat, ea + (j : Int) - a = z := ⟨(ea + (j : Int) - a).toNat, by omega⟩
                rw [hz] at hsub
                have hzl : z < b.length := by omega
                have hzl' : (z : Int) < (b.length : Int) := by omega
                have iv1 := ob.sl.run_idx (P := Try.prog) IB.und IB.size .u64 z hzl
                have iy1 := oy.sl.run_idx (P := Try.prog) II.und II.size .u64 z (by have := HL.out; omega)
                simp only [Nat.mul_one] at iv1 iy1
                have fv := ob.frozen z (by omega)
                obtain ⟨uv, cv⟩ : ∃ u, wr.cell? (at_ v1 z) = some u := ⟨_, ob.sl.cell z _ (List.getElem?_eq_getElem (by have := ob.sl.len; omega))⟩
                have os := ob.set (by omega) z (bv eb[j])
                rw [← List.map_set, ← layB_in hjl hz (by omega)] at os
                have fq : v1.ownBlock = some (at_ v1 z).block := ob.at_block (by omega) _
                have M1 : Mod (fun q => v1.ownBlock = some q) wr (wr.setCell (at_ v1 z) (bv eb[j])) := Mod.setCell (F := fun q => v1.ownBlock = some q) (Mod.refl _ _) (.inl fq) _
                have oy1 := oy.mod M1 (fun q hq h => ob.apart oy (by decide) h hq)
                have fy := oy1.frozen z (by have := HL.out; omega)
                obtain ⟨uy, cy⟩ : ∃ u, (wr.setCell (at_ v1 z) (bv eb[j])).cell? (at_ y2 z) = some u := ⟨_, oy1.sl.cell z _ (List.getElem?_eq_getElem (by have := oy1.sl.len; have := HL.out; omega))⟩
                have oys := oy1.set (by have := HL.out; omega) z (iv by_)
                rw [← List.map_set, ← layY_in hz (by have := HL.out; omega)] at oys
                have fqy : y2.ownBlock = some (at_ y2 z).block := oy1.at_block (by have := HL.out; omega) _
                have M2 : Mod (fun q => y2.ownBlock = some q) (wr.setCell (at_ v1 z) (bv eb[j])) ((wr.setCell (at_ v1 z) (bv eb[j])).setCell (at_ y2 z) (iv by_)) := Mod.setCell (F := fun q => y2.ownBlock = some q) (Mod.refl _ _) (.inl fqy) _
                have d3' : (wr.setCell (at_ v1 z) (bv eb[j])).cell? ⟨g, 3, none⟩ = some (.int .i64 by_) := by have := M1.blk HGR.out (fun h => H0.out.2.1 (.inl h)); simp [World.cell?, this]
                have OS := Lib.hid (And.intro ((xz.trans' M1 (fun q h => .inl (.inl h))).trans' M2 (fun q h => .inl (.inr h))) (And.intro (os.mod M2 (fun q hq h => os.apart oy1 (by decide) hq h)) oys))
                clear os fq M1 oy1 oys fqy M2 ob oy xz
                simp only [bv] at fy cy d3'
                go_wp2_with fail
                go_region
                go_wp2_with fail
                go_roundw
                case rel => exact ⟨j + 1, by omega, by go_num, OS.out.1.drew, OS.out.2.1, OS.out.2.2⟩
                case measure => simp [intOf]; omega
            · have hjl' : ¬ (j : Int) < (eb.length : Int) := by omega
              obtain rfl : j = eb.length := by omega
              rw [List.take_length] at ob
              have HF := Lib.hid (And.intro xz (And.intro ob oy))
              clear xz ob oy
              go_wp2_with fail
              go_roundw
              case rel => exact ⟨i + 1, by omega, by go_num, H0.out.2.2.2.2.trans HF.out.1, by rw [HS.out.1, if_pos hk, ← HBY.out.1]; exact HF.out.2.1, by rw [HS.out.2, if_pos hk, ← HBY.out.2]; exact HF.out.2.2⟩
              case measure => simp [intOf]; omega
        · have hk' : (bl != k) = true := by rw [bne_iff_ne]; exact hk
          clear c0 c1 c2 c3 c4 k1 t1
          go_wp2_with fail
          go_roundw
          case rel => exact ⟨i + 1, by omega, by go_num, H0.out.2.2.2.2, by rw [HS.out.1, if_neg hk]; exact OO.out.1, by rw [HS.out.2, if_neg hk]; exact OO.out.2⟩
          case measure => simp [intOf]; omega
      · have hlt' : ¬ (i : Int) < (E.length : Int) := by omega
        obtain rfl : i = E.length := by omega
        rw [List.take_length] at ob oy
        have HF := Lib.hid (And.intro xr (And.intro ob oy))
        clear xr ob oy
        go_wp2_with fail
        try rw [Exit.noGoto_ret]
        go_ret2
        obtain ⟨xr, ob, oy⟩ := HF.out
        have hF : ∀ q, (v1.ownBlock = some q ∨ y2.ownBlock = some q) → w.heap.size ≤ q := fun q h => h.elim (HO.out.2.2.2.1 q) (HO.out.2.2.2.2 q)
        exact ⟨_, _, rfl, by rw [HE.out.1, overB_len]; exact ob, by rw [HE.out.2, overY_len]; exact oy, HO.out.2.2.1.trans' xr (fun q h => .inr (hF q h)), HO.out.2.2.2.1, HO.out.2.2.2.2⟩
end Go.Proofs.Ytbhocahmhmafmaa
