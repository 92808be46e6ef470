/-
  The document's store buffers (renref18.Queue) in memory. No condition. The contract of (*renref18.Queue).Over. No condition. The contract of (*renref18.Queue).List: the entries, in memory of their own. No condition. The contract of (*renref18.Queue).Put. No condition.
-/
import Derived.Test.YtbhocahmhmafmaaGreatPBase
import Derived.Test.YtbhocahmhmafmaaGreatPFifoDelete
import Derived.Test.YtbhocahmhmafmaaGreatPFifoAt
import Derived.Test.YtbhocahmhmafmaaGreatPBaseBy
import Derived.Test.YtbhocahmhmafmaaGreatPPlan
import Derived.Deep.RegionLaw
import Derived.BigQuiet
import Derived.BigRegion
import Derived.Deep.DeepCutAuto
namespace Go.Proofs.YtbhocahmhmafmaaGreat
open Go.Ren Go.RowKit
set_option linter.unusedVariables false
theorem IRQ : EInfo Tryz.prog 87 155 5 56 (.agg #[.int .i64 0, .int .i64 0, .slice none 0 0, .int .i64 0, .bool false]) := ⟨Tryz.underlying87, by kernel_rfl, rfl, by decide⟩
structure RqIn (w : World) (pq : Nat) (lv : Value) (V : Nat → Value) (room : Nat) (E : List Ent) : Prop where
 box : w.heap[pq]? = some (.cells #[.int .i64 room, lv] 89 (0, 0))
 row : Own w 155 5 lv E.length (flat 5 E.length (fun i j => ecell (ent E i) (V i) j))
 bs : ∀ i, i < E.length → BytesAt w (V i) (ent E i).b
 far : ∀ i k, i < E.length → fp (V i) k → k ≠ pq ∧ lv.ownBlock ≠ some k
 ok : ∀ i, i < E.length → EOk (ent E i)
 rng : room ≤ 64
 cnt : E.length ≤ room
def RqFp (pq : Nat) (lv : Value) (V : Nat → Value) (n : Nat) (k : Nat) : Prop := k = pq ∨ lv.ownBlock = some k ∨ ∃ i, i < n ∧ fp (V i) k
structure RqAt (w : World) (p : Value) (room : Nat) (E : List Ent) (S : Nat → Prop) : Prop where
 ex : ∃ pq lv V, p = .pointer (some ⟨pq, 0, none⟩) ∧ RqIn w pq lv V room E ∧ ∀ k, S k ↔ RqFp pq lv V E.length k
theorem RqIn.lt {w : World} {pq : Nat} {lv : Value} {V : Nat → Value} {room : Nat} {E : List Ent} (h : RqIn w pq lv V room E) {k : Nat} (hk : RqFp pq lv V E.length k) : k < w.heap.size := by
 rcases hk with rfl | hk | ⟨i, hi, hk⟩
 · exact lt_of_block h.box
 · exact h.row.lt hk
 · exact Sl.lt (h.bs i hi) (by decide) hk
theorem RqIn.mod {w w' : World} {pq : Nat} {lv : Value} {V : Nat → Value} {room : Nat} {E : List Ent} {F : Nat → Prop} (h : RqIn w pq lv V room E) (md : Mod F w w') (hF : ∀ k, RqFp pq lv V E.length k → ¬ F k) : RqIn w' pq lv V room E :=
 ⟨md.blk h.box (hF pq (.inl rfl)), h.row.mod md fun k hk => hF k (.inr (.inl hk)), fun i hi => BytesAt.mod (h.bs i hi) md fun k hk => hF k (.inr (.inr ⟨i, hi, hk⟩)), h.far, h.ok, h.rng, h.cnt⟩
theorem RqAt.lt {w : World} {p : Value} {room : Nat} {E : List Ent} {S : Nat → Prop} (h : RqAt w p room E S) {k : Nat} (hk : S k) : k < w.heap.size := by
 obtain ⟨pq, lv, V, _, hin, hS⟩ := h.ex
 exact hin.lt ((hS k).1 hk)
theorem RqAt.mod {w w' : World} {p : Value} {room : Nat} {E : List Ent} {S F : Nat → Prop} (h : RqAt w p room E S) (md : Mod F w w') (hF : ∀ k, S k → ¬ F k) : RqAt w' p room E S := by
 obtain ⟨pq, lv, V, hp, hin, hS⟩ := h.ex
 exact ⟨pq, lv, V, hp, hin.mod md fun k hk => hF k ((hS k).2 hk), hS⟩
theorem RqAt.ext {w w' : World} {p : Value} {room : Nat} {E : List Ent} {S : Nat → Prop} (h : RqAt w p room E S) (md : Ext w w') : RqAt w' p room E S := h.mod md fun _ _ h => h
theorem RqIn.c0 {w : World} {pq : Nat} {lv : Value} {V : Nat → Value} {room : Nat} {E : List Ent} (h : RqIn w pq lv V room E) : w.cell? ⟨pq, 0, none⟩ = some (.int .i64 room) := by simp [World.cell?, h.box]
theorem RqIn.c1 {w : World} {pq : Nat} {lv : Value} {V : Nat → Value} {room : Nat} {E : List Ent} (h : RqIn w pq lv V room E) : w.cell? ⟨pq, 1, none⟩ = some lv := by simp [World.cell?, h.box]
theorem RqIn.cells {w : World} {pq : Nat} {lv : Value} {V : Nat → Value} {room : Nat} {E : List Ent} (h : RqIn w pq lv V room E) {i : Nat} (hi : i < E.length) :
 w.cell? (at_ lv (i * 5)) = some (.int .i64 (ent E i).blk) ∧ w.cell? ⟨(at_ lv (i * 5)).block, (at_ lv (i * 5)).off + 1, none⟩ = some (.int .i64 (ent E i).at_) ∧ w.cell? ⟨(at_ lv (i * 5)).block, (at_ lv (i * 5)).off + 2, none⟩ = some (V i) ∧
 w.cell? ⟨(at_ lv (i * 5)).block, (at_ lv (i * 5)).off + 3, none⟩ = some (.int .i64 (ent E i).by_) ∧ w.cell? ⟨(at_ lv (i * 5)).block, (at_ lv (i * 5)).off + 4, none⟩ = some (.bool (ent E i).tears) := by
 have g : ∀ j, j < 5 → (flat 5 E.length (fun i j => ecell (ent E i) (V i) j))[i * 5 + j]? = some (ecell (ent E i) (V i) j) := fun j hj => flat_get (sz := 5) _ hi hj
 exact ⟨h.row.sl.cell _ _ (g 0 (by decide)), h.row.sl.cell_off (by decide) (g 1 (by decide)), h.row.sl.cell_off (by decide) (g 2 (by decide)), h.row.sl.cell_off (by decide) (g 3 (by decide)), h.row.sl.cell_off (by decide) (g 4 (by decide))⟩
theorem rq_push {w wr w2 : World} {pq room : Nat} {lv lv' vb : Value} {V : Nat → Value} {E : List Ent} {e : Ent} (hin : RqIn w pq lv V room E) (x : Ext w wr) (M2 : Mod (fun q => lv.ownBlock = some q) wr w2)
 (ol : Own w2 155 5 lv' (E.length + 1) (flat 5 E.length (fun i j => ecell (ent E i) (V i) j) ++ [.int .i64 e.blk, .int .i64 e.at_, vb, .int .i64 e.by_, .bool e.tears]))
 (fr : ∀ k, lv'.ownBlock = some k → lv.ownBlock = some k ∨ wr.heap.size ≤ k) (ob : Own wr 5 1 vb e.b.length (e.b.map bv)) (nb : ∀ k, vb.ownBlock = some k → w.heap.size ≤ k) (hok : EOk e) (hc : E.length < room) :
 RqIn (w2.setCell ⟨pq, 1, none⟩ lv') pq lv' (updV V E.length vb) room (E ++ [e]) ∧ Mod (RqFp pq lv V E.length) w (w2.setCell ⟨pq, 1, none⟩ lv') ∧
  ∀ k, RqFp pq lv' (updV V E.length vb) (E ++ [e]).length k → RqFp pq lv V E.length k ∨ w.heap.size ≤ k := by
 have R0 := hin.row.ext x
 have B0 := x.blk hin.box
 have C0 := M2.blk B0 (fun h => R0.apart_obj B0 (by decide) h)
 have hlen : (E ++ [e]).length = E.length + 1 := by simp
 have Ms : Mod (fun q => q = pq) w2 (w2.setCell ⟨pq, 1, none⟩ lv') := Mod.setCell (F := fun q => q = pq) (Mod.refl _ _) (.inl rfl) _
 have hpq : pq < w.heap.size := lt_of_block hin.box
 have MT : Mod (RqFp pq lv V E.length) w (w2.setCell ⟨pq, 1, none⟩ lv') := ((x.mod (RqFp pq lv V E.length)).trans' M2 (fun i hi => .inl (.inr (.inl hi)))).trans' Ms (fun i hi => .inl (.inl hi))
 have vown : ∀ k, fp vb k → vb.ownBlock = some k := fun k hk => by
  obtain ⟨la, lc, rfl, _⟩ := ob.sl.shape
  rcases ob.2 with ⟨h, _⟩ | ⟨g, cap, cur, h, _⟩
  · rw [h] at hk; exact hk.elim
  · rw [h] at hk ⊢; simp [Value.ownBlock]; exact hk.2
 refine ⟨⟨?_, ?_, ?_, ?_, ?_, hin.rng, by rw [hlen]; omega⟩, MT, ?_⟩
 · simp [World.setCell, Array.getElem?_modify, C0]
 · rw [hlen]
   have e1 : flat 5 (E.length + 1) (fun i j => ecell (ent (E ++ [e]) i) (updV V E.length vb i) j) = flat 5 E.length (fun i j => ecell (ent E i) (V i) j) ++ [.int .i64 e.blk, .int .i64 e.at_, vb, .int .i64 e.by_, .bool e.tears] := by
    rw [flat_succ _ _ _ (by decide)]
    congr 1
    · exact flat_congr fun i j hi _ => by rw [ent_snoc_lt hi, updV_lt hi]
    · simp [List.range, List.range.loop, ecell, ent_snoc, updV_same]
   rw [e1]
   exact ol.mod Ms (fun k hk h => by subst h; exact ol.apart_obj C0 (by decide) hk)
 · intro i hi
   rw [hlen] at hi
   by_cases h : i = E.length
   · subst h
     rw [ent_snoc, updV_same]
     have h2 := ob.mod M2 (fun k hk h => ob.apart R0 (by decide) hk h)
     exact (h2.mod Ms (fun k hk h => by subst h; exact h2.apart_obj C0 (by decide) hk)).sl
   · have hi' : i < E.length := by omega
     rw [ent_snoc_lt hi', updV_lt hi']
     have hb := hin.bs i hi'
     have hf := hin.far i
     refine BytesAt.mod (BytesAt.mod (BytesAt.ext hb x) M2 (fun k hk => (hf k hi' hk).2)) Ms (fun k hk => (hf k hi' hk).1)
 · intro i k hi hk
   rw [hlen] at hi
   by_cases h : i = E.length
   · subst h
     rw [updV_same] at hk
     have hv := vown k hk
     have := nb k hv
     refine ⟨by omega, fun h => ?_⟩
     have h2 := ob.mod M2 (fun k hk h => ob.apart R0 (by decide) hk h)
     exact h2.apart ol (by decide) hv h
   · have hi' : i < E.length := by omega
     rw [updV_lt hi'] at hk
     refine ⟨(hin.far i k hi' hk).1, fun h => ?_⟩
     have := Sl.lt (hin.bs i hi') (by decide) hk
     rcases fr k h with h | h
     · exact (hin.far i k hi' hk).2 h
     · have := x.size; omega
 · intro i hi
   rw [hlen] at hi
   by_cases h : i = E.length
   · subst h; rw [ent_snoc]; exact hok
   · have hi' : i < E.length := by omega
     rw [ent_snoc_lt hi']; exact hin.ok i hi'
 · intro k hk
   rcases hk with rfl | hk | ⟨i, hi, hk⟩
   · exact .inl (.inl rfl)
   · exact (fr k hk).imp (fun h => .inr (.inl h)) (fun h => Nat.le_trans x.size h)
   · rw [hlen] at hi
     by_cases h : i = E.length
     · subst h; rw [updV_same] at hk; exact .inr (nb k (vown k hk))
     · have hi' : i < E.length := by omega
       rw [updV_lt hi'] at hk; exact .inl (.inr (.inr ⟨i, hi', hk⟩))
theorem RqIn.row_some {w : World} {pq : Nat} {lv : Value} {V : Nat → Value} {room : Nat} {E : List Ent} (h : RqIn w pq lv V room E) (hn : 0 < E.length) : ∃ g cap, lv = .slice (some ⟨g, 0, none⟩) E.length cap ∧ E.length ≤ cap ∧ cap ≤ maxLen := by
 rcases h.row.2 with ⟨_, h2⟩ | ⟨g, cap, cur, rfl, _, hg, h1, h2, _⟩
 · omega
 · exact ⟨g, cap, rfl, h1, h2⟩
end Go.Proofs.YtbhocahmhmafmaaGreat
namespace Go.Proofs.YtbhocahmhmafmaaGreat
open Go.Ren Go.RowKit
set_option linter.unusedVariables false
set_option maxRecDepth 100000 in
set_option maxHeartbeats 1600000 in
theorem rover_any (w : World) (p : Value) (room : Nat) (E : List Ent) (S : Nat → Prop) (h : RqAt w p room E S) (k a : Int) (ha : I64 a) (vb vy : Value) (b : List UInt8) (y : List Int) (hb : BytesAt w vb b) (hy : IntsAt w vy y) (hlb : b.length ≤ 1000000) (hly : y.length ≤ 1000000) :
 Calls Tryz.prog 108 #[p, .int .i64 k, .int .i64 a, vb, vy] w (OverPost E k a b y w) := by
 obtain ⟨pq, lv, V, rfl, hin, hS⟩ := h.ex
 clear hS h
 have l0 := hin.row.sl.run_len (P := Tryz.prog) IRQ.und 3
 have hcnt := hin.cnt
 have hrng := hin.rng
 go_enter Tryz.func108, Tryz.ntmps108
 have lb0 := Sl.run_len (P := Tryz.prog) hb IB.und 3
 have ly0 := hy.sl.run_len (P := Tryz.prog) II.und 3
 go_wp2_with fail
 refine (copy_bytes _ vb b hb hlb).mono ?_
 rintro e w1 ⟨v1, rfl, o1, x1, f1⟩
 go_wp2_with fail
 refine (copy_ints _ vy y (hy.ext x1) hly).mono ?_
 rintro e w2 ⟨y2, rfl, o2, x2, f2⟩
 rw [List.length_map] at o1 o2
 have ov := o1.ext x2
 have X2 := x1.trans x2
 have f2' : ∀ q, y2.ownBlock = some q → w.heap.size ≤ q := fun q hq => Nat.le_trans x1.size (f2 q hq)
 have lv1 := ov.sl.run_len (P := Tryz.prog) IB.und 3
 have ly2 := o2.sl.run_len (P := Tryz.prog) II.und 3
 have HO := Lib.hid (And.intro ov (And.intro o2 (And.intro X2 (And.intro f1 f2'))))
 have HIN := Lib.hid hin
 have HY := Lib.hid hy.ok
 clear o1 o2 x1 x2 ov X2 f1 f2 f2' hin hb hy
 by_cases hl : b.length = y.length
 case neg =>
  have hl' : ((b.length : Int) != (y.length : Int)) = true := by rw [bne_iff_ne]; omega
  have e1 : qoverB E k a b y = b := by unfold qoverB; rw [if_neg hl]
  have e2 : qoverY E k a b y = y := by unfold qoverY; rw [if_neg hl]
  have HE := Lib.hid (And.intro e1 e2)
  clear e1 e2 hl
  go_wp2_with fail
  go_ret2
  exact ⟨_, _, rfl, by rw [HE.out.1]; exact HO.out.1, by rw [HE.out.2]; exact HO.out.2.1, HO.out.2.2.1, HO.out.2.2.2.1, HO.out.2.2.2.2⟩
 case pos =>
  have hl' : ((b.length : Int) != (y.length : Int)) = false := by rw [bne_eq_false_iff_eq]; omega
  have e1 : qoverB E k a b y = overB E k a b := by unfold qoverB; rw [if_pos hl]
  have e2 : qoverY E k a b y = overY E k a y := by unfold qoverY; rw [if_pos hl]
  have HE := Lib.hid (And.intro e1 e2)
  have HL := Lib.hid hl
  clear e1 e2 hl
  go_wp2_with fail
  go_loopw [14] (fun s34 wr => ∃ i : Nat, i ≤ E.length ∧ s34 = .int .i64 (i : Int) ∧ Mod (fun q => v1.ownBlock = some q ∨ y2.ownBlock = some q) w2 wr ∧
   Own wr 5 1 v1 b.length ((overB (E.take i) k a b).map bv) ∧ Own wr 3 1 y2 y.length ((overY (E.take i) k a y).map iv)) (fun i _ => E.length - (intOf i).toNat)
  case atStart => exact ⟨0, Nat.zero_le _, rfl, Mod.refl _ _, by rw [List.take_zero]; exact HO.out.1, by rw [List.take_zero]; exact HO.out.2.1⟩
  case round =>
   obtain ⟨i, hi, rfl, xr, ob, oy⟩ := hrel
   have q1 : wr.cell? ⟨pq, 1, none⟩ = some lv := (HIN.out.mod (HO.out.2.2.1.trans' xr (fun q h => .inr (h.elim (HO.out.2.2.2.1 q) (HO.out.2.2.2.2 q)))) (fun _ _ h => h)).c1
   by_cases hlt : i < E.length
   · have hlt' : (i : Int) < (E.length : Int) := by omega
     have i0 := HIN.out.row.sl.run_idx (P := Tryz.prog) IRQ.und IRQ.size .i64 i hlt
     have hF : ∀ q, (v1.ownBlock = some q ∨ y2.ownBlock = some q) → w.heap.size ≤ q := fun q h => h.elim (HO.out.2.2.2.1 q) (HO.out.2.2.2.2 q)
     have XR : Ext w wr := HO.out.2.2.1.trans' xr (fun q h => .inr (hF q h))
     have hinr := HIN.out.mod XR (fun _ _ h => h)
     obtain ⟨c0, c1, c2, c3, c4⟩ := hinr.cells hlt
     have hb := hinr.bs i hlt
     have hok := hinr.ok i hlt
     obtain ⟨⟨bl, ea, eb, by_, te⟩, he⟩ : ∃ e, e = ent E i := ⟨_, rfl⟩
     have sB := overB_snoc E i hlt k a b
     have sY := overY_snoc E i hlt k a y
     rw [← he] at c0 c1 c3 c4 hb hok sB sY
     simp only at c0 c1 c3 c4 hb sB sY
     have k1 := Sl.cells_eq hb
     have t1 := Sl.run_st (P := Tryz.prog) hb
     obtain ⟨w0, hw0⟩ : ∃ w0, w0 = wr.alloc (.cells #[.int .i64 bl, .int .i64 ea, V i, .int .i64 by_, .bool te] 155) := ⟨_, rfl⟩
     obtain ⟨g, hg⟩ : ∃ g, g = wr.heap.size := ⟨_, rfl⟩
     have x0 : Ext wr w0 := by rw [hw0]; exact (Mod.refl _ _).alloc _
     have h0 : w0.heap[g]? = some (.cells #[.int .i64 bl, .int .i64 ea, V i, .int .i64 by_, .bool te] 155 (0, 0)) := by rw [hw0, hg]; simp only [heap_alloc_if, if_true]
     have hgF : ¬ (v1.ownBlock = some g ∨ y2.ownBlock = some g) := fun h => h.elim (fun h => by have := ob.lt h; omega) (fun h => by have := oy.lt h; omega)
     have ob0 := ob.ext x0
     have oy0 := oy.ext x0
     have hfpV : ∀ q, fp (V i) q → ¬ (v1.ownBlock = some q ∨ y2.ownBlock = some q) := fun q hq h => by have := Sl.lt (HIN.out.bs i hlt) (by decide) hq; have := hF q h; omega
     have hb0 := BytesAt.ext hb x0
     have le := Sl.run_len (P := Tryz.prog) hb IB.und 3
     have M0 : Mod (fun q => v1.ownBlock = some q ∨ y2.ownBlock = some q) w2 w0 := xr.ext x0
     have HG := Lib.hid (And.intro hw0 hg)
     have H0 := Lib.hid (And.intro h0 (And.intro hgF (And.intro hb0 (And.intro hfpV M0))))
     have HS := Lib.hid (And.intro sB sY)
     have OO := Lib.hid (And.intro ob0 oy0)
     have hbl := hok.len
     have hat := hok.at_
     have hyb : I64 by_ := by have := hok.by_; simp only at this; unfold I64; omega
     simp only at hbl hat
     have HYB := Lib.hid hyb
     obtain ⟨d0, d1, d2, d3⟩ : w0.cell? ⟨g, 0, none⟩ = some (.int .i64 bl) ∧ w0.cell? ⟨g, 1, none⟩ = some (.int .i64 ea) ∧ w0.cell? ⟨g, 2, none⟩ = some (V i) ∧ w0.cell? ⟨g, 3, none⟩ = some (.int .i64 by_) := by simp [World.cell?, h0]
     clear he sB sY hw0 hg x0 h0 ob oy hb hb0 hinr XR xr M0 ob0 oy0 hyb hok hF hfpV hgF
     go_upto_region 8 with fail
     rw [← HG.out.1, ← HG.out.2]
     by_cases hk : bl = k
     · have hk' : (bl == k) = true := by rw [beq_iff_eq]; exact hk
       obtain ⟨B0, hB0⟩ : ∃ B0, B0 = overB (E.take i) k a b := ⟨_, rfl⟩
       obtain ⟨Y0, hY0⟩ : ∃ Y0, Y0 = overY (E.take i) k a y := ⟨_, rfl⟩
       have lB : B0.length = b.length := by rw [hB0]; exact overB_len _ _ _ _
       have lY : Y0.length = y.length := by rw [hY0]; exact overY_len _ _ _ _
       have HBY := Lib.hid (And.intro hB0 hY0)
       rw [← hB0, ← hY0] at OO
       clear hB0 hY0 c0 c1 c2 c3 c4 t1 q1
       go_wp2_with fail
       clear d0 d1 d2 d3
       go_loopw [16] (fun s45 wz => ∃ j : Nat, j ≤ eb.length ∧ s45 = .int .i64 (j : Int) ∧ Mod (fun q => v1.ownBlock = some q ∨ y2.ownBlock = some q) w0 wz ∧
        Own wz 5 1 v1 b.length ((layB ea (eb.take j) a B0).map bv) ∧ Own wz 3 1 y2 y.length ((layY ea j by_ a Y0).map iv)) (fun j _ => eb.length - (intOf j).toNat)
       case atStart => exact ⟨0, Nat.zero_le _, rfl, Mod.refl _ _, by rw [List.take_zero, layB_nil]; exact OO.out.1, by rw [layY_nil]; exact OO.out.2⟩
       case round =>
        obtain ⟨j, hj, rfl, xz, ob, oy⟩ := hrel
        have hgr := xz.blk H0.out.1 H0.out.2.1
        obtain ⟨d0, d1, d2, d3⟩ : wr.cell? ⟨g, 0, none⟩ = some (.int .i64 bl) ∧ wr.cell? ⟨g, 1, none⟩ = some (.int .i64 ea) ∧ wr.cell? ⟨g, 2, none⟩ = some (V i) ∧ wr.cell? ⟨g, 3, none⟩ = some (.int .i64 by_) := by simp [World.cell?, hgr]
        have HGR := Lib.hid hgr
        clear hgr
        by_cases hjl : j < eb.length
        · have hjl' : (j : Int) < (eb.length : Int) := by omega
          have iV := Sl.run_idx (P := Tryz.prog) H0.out.2.2.1 IB.und IB.size .i64 j hjl
          simp only [Nat.mul_one] at iV
          have hbr := BytesAt.mod H0.out.2.2.1 xz (fun q hq => H0.out.2.2.2.1 q hq)
          have cV : wr.cell? (at_ (V i) j) = some (.int .u8 (eb[j].toNat : Int)) := BytesAt.cell hbr hjl
          have hpl : IntKind.i64.wrap (ea + (j : Int)) = ea + j := IntWalk.i64_in _ (by omega)
          have hpu : IntKind.u64.wrap (ea + (j : Int)) = ea + j := IntWalk.u64_in _ (by omega)
          clear hbr
          rcases (by omega : ea + (j : Int) < a ∨ (a ≤ ea + (j : Int) ∧ a + b.length ≤ ea + (j : Int)) ∨ (a ≤ ea + (j : Int) ∧ ea + (j : Int) < a + b.length)) with hp | ⟨hp, hq⟩ | ⟨hp, hq⟩
          · have HF := Lib.hid (And.intro xz (And.intro ob oy))
            clear xz ob oy
            go_wp2_with fail
            go_roundw
            case rel => exact ⟨j + 1, by omega, by go_num, HF.out.1, by rw [layB_out (.inl hp)]; exact HF.out.2.1, by rw [layY_out (.inl hp)]; exact HF.out.2.2⟩
            case measure => simp [intOf]; omega
          · have HF := Lib.hid (And.intro xz (And.intro ob oy))
            have hsub : IntKind.u64.wrap (ea + (j : Int) - IntKind.u64.wrap a) = ea + j - a := u64_sub_in (by omega) ha hp
            have hbu : IntKind.u64.wrap (b.length : Int) = b.length := IntWalk.u64_in _ (by omega)
            have hnl : ¬ (ea + (j : Int) - a < (b.length : Int)) := by omega
            clear xz ob oy
            go_wp2_with fail
            go_roundw
            case rel => exact ⟨j + 1, by omega, by go_num, HF.out.1, by rw [layB_out (.inr (by omega))]; exact HF.out.2.1, by rw [layY_out (.inr (by have := HL.out; omega))]; exact HF.out.2.2⟩
            case measure => simp [intOf]; omega
          · have hsub : IntKind.u64.wrap (ea + (j : Int) - IntKind.u64.wrap a) = ea + j - a := u64_sub_in (by omega) ha hp
            have hbu : IntKind.u64.wrap (b.length : Int) = b.length := IntWalk.u64_in _ (by omega)
            obtain ⟨z, hz⟩ : ∃ z : Nat, ea + (j : Int) - a = z := ⟨(ea + (j : Int) - a).toNat, by omega⟩
            rw [hz] at hsub
            have hzl : z < b.length := by omega
            have hzl' : (z : Int) < (b.length : Int) := by omega
            have hsubI : IntKind.i64.wrap (ea + (j : Int) - a) = z := by rw [hz]; exact IntWalk.i64_in _ (by omega)
            have iv1 := ob.sl.run_idx (P := Tryz.prog) IB.und IB.size .i64 z hzl
            have iy1 := oy.sl.run_idx (P := Tryz.prog) II.und II.size .i64 z (by have := HL.out; omega)
            simp only [Nat.mul_one] at iv1 iy1
            have fv := ob.frozen z (by omega)
            obtain ⟨uv, cv⟩ : ∃ u, wr.cell? (at_ v1 z) = some u := ⟨_, ob.sl.cell z _ (List.getElem?_eq_getElem (by have := ob.sl.len; omega))⟩
            have os := ob.set (by omega) z (bv eb[j])
            rw [← List.map_set, ← layB_in hjl hz (by omega)] at os
            have fq : v1.ownBlock = some (at_ v1 z).block := ob.at_block (by omega) _
            have M1 : Mod (fun q => v1.ownBlock = some q) wr (wr.setCell (at_ v1 z) (bv eb[j])) := Mod.setCell (F := fun q => v1.ownBlock = some q) (Mod.refl _ _) (.inl fq) _
            have oy1 := oy.mod M1 (fun q hq h => ob.apart oy (by decide) h hq)
            have fy := oy1.frozen z (by have := HL.out; omega)
            obtain ⟨uy, cy⟩ : ∃ u, (wr.setCell (at_ v1 z) (bv eb[j])).cell? (at_ y2 z) = some u := ⟨_, oy1.sl.cell z _ (List.getElem?_eq_getElem (by have := oy1.sl.len; have := HL.out; omega))⟩
            have oys := oy1.set (by have := HL.out; omega) z (iv by_)
            rw [← List.map_set, ← layY_in hz (by have := HL.out; omega)] at oys
            have fqy : y2.ownBlock = some (at_ y2 z).block := oy1.at_block (by have := HL.out; omega) _
            have M2 : Mod (fun q => y2.ownBlock = some q) (wr.setCell (at_ v1 z) (bv eb[j])) ((wr.setCell (at_ v1 z) (bv eb[j])).setCell (at_ y2 z) (iv by_)) := Mod.setCell (F := fun q => y2.ownBlock = some q) (Mod.refl _ _) (.inl fqy) _
            have d3' : (wr.setCell (at_ v1 z) (bv eb[j])).cell? ⟨g, 3, none⟩ = some (.int .i64 by_) := by have := M1.blk HGR.out (fun h => H0.out.2.1 (.inl h)); simp [World.cell?, this]
            have OS := Lib.hid (And.intro ((xz.trans' M1 (fun q h => .inl (.inl h))).trans' M2 (fun q h => .inl (.inr h))) (And.intro (os.mod M2 (fun q hq h => os.apart oy1 (by decide) hq h)) oys))
            clear os fq M1 oy1 oys fqy M2 ob oy xz
            simp only [bv] at fy cy d3'
            go_wp2_with fail
            go_roundw
            case rel => exact ⟨j + 1, by omega, by go_num, OS.out.1, OS.out.2.1, OS.out.2.2⟩
            case measure => simp [intOf]; omega
        · have hjl' : ¬ (j : Int) < (eb.length : Int) := by omega
          obtain rfl : j = eb.length := by omega
          rw [List.take_length] at ob
          have HF := Lib.hid (And.intro xz (And.intro ob oy))
          clear xz ob oy
          go_wp2_with fail
          go_roundw
          case rel => exact ⟨i + 1, by omega, by go_num, H0.out.2.2.2.2.trans HF.out.1, by rw [HS.out.1, if_pos hk, ← HBY.out.1]; exact HF.out.2.1, by rw [HS.out.2, if_pos hk, ← HBY.out.2]; exact HF.out.2.2⟩
          case measure => simp [intOf]; omega
     · have hk' : (bl == k) = false := by rw [beq_eq_false_iff_ne]; exact hk
       clear c0 c1 c2 c3 c4 t1 q1
       go_wp2_with fail
       clear d0 d1 d2 d3
       go_loopw [16] (fun s45 wz => ∃ j : Nat, j ≤ eb.length ∧ s45 = .int .i64 (j : Int) ∧ Ext w0 wz) (fun j _ => eb.length - (intOf j).toNat)
       case atStart => exact ⟨0, Nat.zero_le _, rfl, Mod.refl _ _⟩
       case round =>
        obtain ⟨j, hj, rfl, xz⟩ := hrel
        have hgr := xz.blk H0.out.1
        obtain ⟨d0, d1, d2, d3⟩ : wr.cell? ⟨g, 0, none⟩ = some (.int .i64 bl) ∧ wr.cell? ⟨g, 1, none⟩ = some (.int .i64 ea) ∧ wr.cell? ⟨g, 2, none⟩ = some (V i) ∧ wr.cell? ⟨g, 3, none⟩ = some (.int .i64 by_) := by simp [World.cell?, hgr]
        have HF := Lib.hid xz
        clear hgr xz
        by_cases hjl : j < eb.length
        · have hjl' : (j : Int) < (eb.length : Int) := by omega
          have hpl : IntKind.i64.wrap (ea + (j : Int)) = ea + j := IntWalk.i64_in _ (by omega)
          go_wp2_with fail
          go_roundw
          case rel => exact ⟨j + 1, by omega, by go_num, HF.out⟩
          case measure => simp [intOf]; omega
        · have hjl' : ¬ (j : Int) < (eb.length : Int) := by omega
          go_wp2_with fail
          go_roundw
          case rel => exact ⟨i + 1, by omega, by go_num, H0.out.2.2.2.2.ext HF.out, by rw [HS.out.1, if_neg hk]; exact OO.out.1.ext HF.out, by rw [HS.out.2, if_neg hk]; exact OO.out.2.ext HF.out⟩
          case measure => simp [intOf]; omega
   · have hlt' : ¬ (i : Int) < (E.length : Int) := by omega
     obtain rfl : i = E.length := by omega
     rw [List.take_length] at ob oy
     have HF := Lib.hid (And.intro xr (And.intro ob oy))
     clear xr ob oy
     go_wp2_with fail
     go_ret2
     obtain ⟨xr, ob, oy⟩ := HF.out
     have hF : ∀ q, (v1.ownBlock = some q ∨ y2.ownBlock = some q) → w.heap.size ≤ q := fun q h => h.elim (HO.out.2.2.2.1 q) (HO.out.2.2.2.2 q)
     exact ⟨_, _, rfl, by rw [HE.out.1, overB_len]; exact ob, by rw [HE.out.2, overY_len]; exact oy, HO.out.2.2.1.trans' xr (fun q h => .inr (hF q h)), HO.out.2.2.2.1, HO.out.2.2.2.2⟩
end Go.Proofs.YtbhocahmhmafmaaGreat
namespace Go.Proofs.YtbhocahmhmafmaaGreat
open Go.Ren Go.RowKit
set_option linter.unusedVariables false
structure RListIn (w : World) (lv : Value) (V : Nat → Value) (n : Nat) (E : Nat → Ent) : Prop where
 row : Own w 155 5 lv n (flat 5 n (fun i j => ecell (E i) (V i) j))
 bs : ∀ i, i < n → Own w 5 1 (V i) (E i).b.length ((E i).b.map bv)
theorem RListIn.ext {w w' : World} {lv : Value} {V : Nat → Value} {n : Nat} {E : Nat → Ent} (h : RListIn w lv V n E) (x : Ext w w') : RListIn w' lv V n E := ⟨h.row.ext x, fun i hi => (h.bs i hi).ext x⟩
theorem RListIn.push {w w2 : World} {v v' u : Value} {V : Nat → Value} {n : Nat} {E : Nat → Ent} (h : RListIn w v V n E) (M : Mod (fun q => v.ownBlock = some q) w w2)
 (o : Own w2 155 5 v' (n + 1) (flat 5 n (fun i j => ecell (E i) (V i) j) ++ [.int .i64 (E n).blk, .int .i64 (E n).at_, u, .int .i64 (E n).by_, .bool (E n).tears]))
 (ob : Own w 5 1 u (E n).b.length ((E n).b.map bv)) : RListIn w2 v' (updV V n u) (n + 1) E := by
 refine ⟨?_, fun i hi => ?_⟩
 · have e : flat 5 (n + 1) (fun i j => ecell (E i) (updV V n u i) j) = flat 5 n (fun i j => ecell (E i) (V i) j) ++ [.int .i64 (E n).blk, .int .i64 (E n).at_, u, .int .i64 (E n).by_, .bool (E n).tears] := by
    rw [flat_succ _ _ _ (by decide)]
    congr 1
    · exact flat_congr fun i j hi _ => by rw [updV_lt hi]
    · simp [List.range, List.range.loop, ecell, updV_same]
   rw [e]; exact o
 · by_cases e : i = n
   · subst e; rw [updV_same]; exact ob.mod M (fun k hk hl => ob.apart h.row (by decide) hk hl)
   · have hi' : i < n := by omega
     rw [updV_lt hi']; exact (h.bs i hi').mod M (fun k hk hl => (h.bs i hi').apart h.row (by decide) hk hl)
def RListPost18 (E : List Ent) (w : World) (e : Ending) (w' : World) : Prop :=
 ∃ v V, e = .returned v ∧ RListIn w' v V E.length (fun i => ent E i) ∧ Ext w w' ∧ (∀ q, v.ownBlock = some q → w.heap.size ≤ q) ∧ ∀ i q, i < E.length → (V i).ownBlock = some q → w.heap.size ≤ q
set_option maxRecDepth 100000 in
set_option maxHeartbeats 800000 in
theorem rqlist_any (w : World) (p : Value) (room : Nat) (E : List Ent) (S : Nat → Prop) (h : RqAt w p room E S) :
 Calls Tryz.prog 179 #[p] w (RListPost18 E w) := by
 obtain ⟨pq, lv, V, rfl, hin, _⟩ := h.ex
 clear h
 have l0 := hin.row.sl.run_len (P := Tryz.prog) IRQ.und 3
 have hcnt := hin.cnt
 have hrng := hin.rng
 have HIN := Lib.hid hin
 clear hin
 go_enter Tryz.func179, Tryz.ntmps179
 go_wp2_with fail
 go_loopw [3, 4] (fun s3 s4 wr => ∃ k V', k ≤ E.length ∧ s4 = .int .i64 (k : Int) ∧ RListIn wr s3 V' k (fun i => ent E i) ∧ Ext w wr ∧ (∀ q, s3.ownBlock = some q → w.heap.size ≤ q) ∧ ∀ i q, i < k → (V' i).ownBlock = some q → w.heap.size ≤ q) (fun _ i _ => E.length - (intOf i).toNat)
 case atStart => exact ⟨0, V, Nat.zero_le _, rfl, ⟨Own.nil _ _ _, fun i hi => by omega⟩, Mod.refl _ _, (fun q hq => by cases hq), fun i q hi => by omega⟩
 case round =>
  obtain ⟨k, V', hk, rfl, hr, x, hf, hf2⟩ := hrel
  have hinr := HIN.out.mod x (fun _ _ h => h)
  have c0 := hinr.c1
  by_cases hlt : k < E.length
  · have hlt' : (k : Int) < (E.length : Int) := by omega
    have i0 := HIN.out.row.sl.run_idx (P := Tryz.prog) IRQ.und IRQ.size .i64 k hlt
    obtain ⟨c1, c2, c3, c4, c5⟩ := hinr.cells hlt
    have hb := hinr.bs k hlt
    have hok := (hinr.ok k hlt).len
    have k1 := Sl.cells_eq hb
    have t1 := Sl.run_st (P := Tryz.prog) hb
    obtain ⟨e, he⟩ : ∃ e, e = ent E k := ⟨_, rfl⟩
    rw [← he] at c1 c2 c4 c5 hb hok
    obtain ⟨bl, hbl⟩ : ∃ b, b = e.blk := ⟨_, rfl⟩
    obtain ⟨ea, hea⟩ : ∃ b, b = e.at_ := ⟨_, rfl⟩
    obtain ⟨y, hy⟩ : ∃ b, b = e.by_ := ⟨_, rfl⟩
    obtain ⟨te, hte⟩ : ∃ b, b = e.tears := ⟨_, rfl⟩
    obtain ⟨eb, heb⟩ : ∃ b, b = e.b := ⟨_, rfl⟩
    rw [← hbl] at c1; rw [← hea] at c2; rw [← hy] at c4; rw [← hte] at c5; rw [← heb] at hb hok
    obtain ⟨A, hA⟩ : ∃ A, A = at_ lv (k * 5) := ⟨_, rfl⟩
    rw [← hA] at i0 c1 c2 c3 c4 c5
    have HE := Lib.hid (And.intro he (And.intro hbl (And.intro hea (And.intro hy (And.intro hte heb)))))
    obtain ⟨vk, hvk⟩ : ∃ v, v = V k := ⟨_, rfl⟩
    rw [← hvk] at c3 hb k1 t1
    obtain ⟨w1, hw1⟩ : ∃ w1, w1 = wr.alloc (.cells #[.int .i64 bl, .int .i64 ea, vk, .int .i64 y, .bool te] 155) := ⟨_, rfl⟩
    obtain ⟨g1, hg1⟩ : ∃ g, g = wr.heap.size := ⟨_, rfl⟩
    have x1 : Ext wr w1 := by rw [hw1]; exact (Mod.refl _ _).alloc _
    have h1 : w1.heap[g1]? = some (.cells #[.int .i64 bl, .int .i64 ea, vk, .int .i64 y, .bool te] 155 (0, 0)) := by rw [hw1, hg1]; exact heap_alloc_new _ _
    have H := Lib.hid (And.intro hr (And.intro x (And.intro hb (And.intro hf hf2))))
    have HW1 := Lib.hid (And.intro hw1 (And.intro hg1 (And.intro x1 h1)))
    have d0 : w1.cell? ⟨g1, 0, none⟩ = some (.int .i64 bl) := by simp [World.cell?, h1]
    have d1 : w1.cell? ⟨g1, 1, none⟩ = some (.int .i64 ea) := by simp [World.cell?, h1]
    have d2 : w1.cell? ⟨g1, 2, none⟩ = some vk := by simp [World.cell?, h1]
    have d3 : w1.cell? ⟨g1, 3, none⟩ = some (.int .i64 y) := by simp [World.cell?, h1]
    have d4 : w1.cell? ⟨g1, 4, none⟩ = some (.bool te) := by simp [World.cell?, h1]
    clear hr x hb hf hf2 hinr he hbl hea hy hte heb hA hvk hw1 hg1 x1 h1
    go_upto_region 6 with fail
    rw [← HW1.out.1, ← HW1.out.2.1]
    clear c0 c1 c2 c3 c4 c5 i0 t1
    go_wp2_with fail
    refine (copy_bytes _ vk eb (BytesAt.ext H.out.2.2.1 HW1.out.2.2.1) (by omega)).mono ?_
    rintro r w2 ⟨v1, rfl, o1, x2, f1⟩
    rw [List.length_map] at o1
    obtain ⟨la, lc, hv1, _⟩ := o1.sl.shape
    subst hv1
    have h2 := x2.blk HW1.out.2.2.2
    have d5 : w2.cell? ⟨g1, 2, none⟩ = some vk := by simp [World.cell?, h2]
    have f5 : w2.frozen? ⟨g1, 2, none⟩ = false := by simp [World.frozen?, h2]
    obtain ⟨w3, hw3⟩ : ∃ W, W = w2.setCell ⟨g1, 2, none⟩ (.slice la eb.length lc) := ⟨_, rfl⟩
    have M3 : Mod (fun q => q = g1) w2 w3 := by rw [hw3]; exact Mod.setCell (F := fun q => q = g1) (Mod.refl _ _) (.inl rfl) _
    have h3 : w3.heap[g1]? = some (.cells #[.int .i64 bl, .int .i64 ea, .slice la eb.length lc, .int .i64 y, .bool te] 155 (0, 0)) := by rw [hw3]; simp [World.setCell, Array.getElem?_modify, h2]
    have hgw : g1 = wr.heap.size := HW1.out.2.1
    have x3 : Ext wr w3 := (HW1.out.2.2.1.trans x2).trans' M3 (fun q hq => .inr (by omega))
    have o3 := o1.mod M3 (fun q hq e => by have := f1 q hq; have := lt_of_block HW1.out.2.2.2; omega)
    have fo : ∀ q, (Value.slice la eb.length lc).ownBlock = some q → wr.heap.size ≤ q := fun q hq => by have := f1 q hq; have := HW1.out.2.2.1.size; omega
    have e0 : w3.cell? ⟨g1, 0, none⟩ = some (.int .i64 bl) := by simp [World.cell?, h3]
    have e1 : w3.cell? ⟨g1, 1, none⟩ = some (.int .i64 ea) := by simp [World.cell?, h3]
    have e2 : w3.cell? ⟨g1, 2, none⟩ = some (.slice la eb.length lc) := by simp [World.cell?, h3]
    have e3 : w3.cell? ⟨g1, 3, none⟩ = some (.int .i64 y) := by simp [World.cell?, h3]
    have e4 : w3.cell? ⟨g1, 4, none⟩ = some (.bool te) := by simp [World.cell?, h3]
    have hr3 := H.out.1.ext x3
    have O := Lib.hid (And.intro o3 (And.intro x3 fo))
    have HW3 := Lib.hid hw3
    clear o1 x2 f1 h2 hw3 M3 h3 x3 o3 fo d0 d1 d2 d3 d4 hgw
    go_upto_region 7 with fail
    rw [← HW3.out]
    clear d5 f5
    go_wp2_with (at_builtin; go_loud (refine wpList_app IRQ rfl (.tmp 26) (.tmp 28) rfl (hr3.row.ext (Mod.alloc (Mod.refl _ _) _)) (built_sl (n := 1) (g := w3.heap.size) (e := 155) (cs := #[.int .i64 bl, .int .i64 ea, .slice la eb.length lc, .int .i64 y, .bool te]) (by simp only [heap_alloc_if, if_true]) rfl (by simp only [maxLen]; omega)) (one5 _ _ _ _ _ _ _) (by simp [Act.eval]) (by simp [Act.eval]) (by omega) (by simp only [maxLen]; omega) ?_); intro lv' w4 ol2 gr2 fr2 nn2; have HH := Lib.hid (And.intro ol2 (And.intro gr2 fr2)); clear ol2 gr2 fr2 nn2)
    go_roundw
    case rel =>
     obtain ⟨ol2, gr2, fr2⟩ := HH.out
     obtain ⟨he, hbl, hea, hy, hte, heb⟩ := HE.out
     have M2 : Mod (fun q => u3.ownBlock = some q) w3 w4 := Mod.grown (Mod.alloc (Mod.refl _ _) _) gr2 (fun q h => .inl h)
     have P := hr3.push (u := .slice la eb.length lc) M2 (by rw [← he, ← hbl, ← hea, ← hy, ← hte]; exact ol2) (by rw [← he, ← heb]; exact O.out.1)
     refine ⟨k + 1, _, by omega, by go_num, P, (H.out.2.1.trans O.out.2.1).trans' M2 (fun q hq => .inr (H.out.2.2.2.1 q hq)), fun q hq => ?_, fun i q hi hq => ?_⟩
     · rcases fr2 q hq with h | h
       · exact H.out.2.2.2.1 q h
       · simp only [World.size_alloc] at h
         have := O.out.2.1.size
         have := H.out.2.1.size
         omega
     · by_cases e : i = k
       · subst e; rw [updV_same] at hq
         have := O.out.2.2 q hq
         have := H.out.2.1.size
         omega
       · have hi' : i < k := by omega
         rw [updV_lt hi'] at hq; exact H.out.2.2.2.2 i q hi' hq
    case measure => simp [intOf]; omega
  · have hlt' : ¬ (k : Int) < (E.length : Int) := by omega
    obtain rfl : k = E.length := by omega
    have HF := Lib.hid (And.intro hr (And.intro x (And.intro hf hf2)))
    clear hr x hf hf2 hinr
    go_wp2_with fail
    go_ret
    exact ⟨_, V', rfl, HF.out.1, HF.out.2.1, HF.out.2.2.1, HF.out.2.2.2⟩
end Go.Proofs.YtbhocahmhmafmaaGreat
namespace Go.Proofs.YtbhocahmhmafmaaGreat
open Go.Ren Go.RowKit
set_option linter.unusedVariables false
set_option maxRecDepth 100000 in
set_option maxHeartbeats 1600000 in
theorem rput_any (w : World) (p : Value) (room : Nat) (E : List Ent) (S : Nat → Prop) (h : RqAt w p room E S) (e : Ent) (vb : Value) (hb : BytesAt w vb e.b) (hI : I64 e.blk ∧ I64 e.by_) :
 Calls Tryz.prog 114 #[p, .agg #[.int .i64 e.blk, .int .i64 e.at_, vb, .int .i64 e.by_, .bool e.tears]] w fun r w' => r = .returned (.int .i64 (qputE room E e)) ∧
  ∃ S', RqAt w' p room (qput room E e) S' ∧ Mod S w w' ∧ ∀ k, S' k → S k ∨ w.heap.size ≤ k := by
 have lb := Sl.run_len (P := Tryz.prog) hb IB.und 3
 have k1 := Sl.cells_eq hb
 have t1 := Sl.run_st (P := Tryz.prog) hb
 obtain ⟨bl, a, b, y, t⟩ := e
 simp only at hb lb k1 t1 hI ⊢
 have hA : ∀ (o : Obj), Mod S w (w.alloc o) := fun o => (Mod.refl _ _).alloc _
 have hq : qputE room E ⟨bl, a, b, y, t⟩ = 1 → qput room E ⟨bl, a, b, y, t⟩ = E := fun h => by unfold qput; rw [h]; rfl
 have hq2 : qputE room E ⟨bl, a, b, y, t⟩ = 11 → qput room E ⟨bl, a, b, y, t⟩ = E := fun h => by unfold qput; rw [h]; rfl
 have HQ := Lib.hid (And.intro hq hq2)
 clear hq hq2
 rcases (by omega : bl < 0 ∨ (0 ≤ bl ∧ a < 0) ∨ (0 ≤ bl ∧ 0 ≤ a ∧ y < 0) ∨ (0 ≤ bl ∧ 0 ≤ a ∧ 0 ≤ y ∧ 256 < a) ∨ (0 ≤ bl ∧ 0 ≤ a ∧ 0 ≤ y ∧ a ≤ 256 ∧ b.length < 1) ∨ (0 ≤ bl ∧ 0 ≤ a ∧ 0 ≤ y ∧ a ≤ 256 ∧ 1 ≤ b.length ∧ 8 < b.length) ∨ (0 ≤ bl ∧ 0 ≤ a ∧ 0 ≤ y ∧ a ≤ 256 ∧ 1 ≤ b.length ∧ b.length ≤ 8)) with
  z1 | ⟨z1, z2⟩ | ⟨z1, z2, z3⟩ | ⟨z1, z2, z3, z4⟩ | ⟨z1, z2, z3, z4, z5⟩ | ⟨z1, z2, z3, z4, z5, z6⟩ | ⟨z1, z2, z3, z4, z5, z6⟩
 case' inr.inr.inr.inr.inl => have z5' : (b.length : Int) < 1 := by omega
 case' inr.inr.inr.inr.inr.inl => have z5' : ¬ (b.length : Int) < 1 := by omega
 case' inr.inr.inr.inr.inr.inl => have z6' : (8 : Int) < (b.length : Int) := by omega
 case inr.inr.inr.inr.inr.inr =>
  have z5' : ¬ (b.length : Int) < 1 := by omega
  have z6' : ¬ (8 : Int) < (b.length : Int) := by omega
  obtain ⟨pq, lv, V, rfl, hin, hS⟩ := h.ex
  have HS := Lib.hid hS
  have HIN := Lib.hid hin
  have l0 := hin.row.sl.run_len (P := Tryz.prog) IRQ.und 3
  obtain ⟨w0, hw0⟩ : ∃ w0, w0 = w.alloc (.cells #[.int .i64 bl, .int .i64 a, vb, .int .i64 y, .bool t] 155) := ⟨_, rfl⟩
  have x0 : Ext w w0 := by rw [hw0]; exact (Mod.refl _ _).alloc _
  have h0 : w0.heap[w.heap.size]? = some (.cells #[.int .i64 bl, .int .i64 a, vb, .int .i64 y, .bool t] 155 (0, 0)) := by rw [hw0]; simp only [heap_alloc_if, if_true]
  obtain ⟨g, hg⟩ : ∃ g, g = w.heap.size := ⟨_, rfl⟩
  rw [← hg] at h0
  have key : ∀ w' : World, Ext w0 w' → (w'.cell? ⟨g, 0, none⟩ = some (.int .i64 bl) ∧ w'.cell? ⟨g, 1, none⟩ = some (.int .i64 a) ∧ w'.cell? ⟨g, 2, none⟩ = some vb ∧ w'.cell? ⟨g, 3, none⟩ = some (.int .i64 y) ∧ w'.cell? ⟨g, 4, none⟩ = some (.bool t)) := by
   intro w' x
   have := x.blk h0
   simp [World.cell?, this]
  have keq : ∀ w' : World, Ext w0 w' → (w'.cell? ⟨pq, 0, none⟩ = some (.int .i64 room) ∧ w'.cell? ⟨pq, 1, none⟩ = some lv) := fun w' x => ⟨Ext.cell (x0.trans x) hin.c0, Ext.cell (x0.trans x) hin.c1⟩
  obtain ⟨c0, c1, c2, c3, c4⟩ := key w0 (Mod.refl _ _)
  obtain ⟨q0, q1⟩ := keq w0 (Mod.refl _ _)
  have hbe : ∀ w' : World, Ext w0 w' → BytesAt w' vb b := fun w' x => BytesAt.ext hb (x0.trans x)
  have KEY := Lib.hid (And.intro key (And.intro keq (And.intro hbe (And.intro x0 h0))))
  have HG := Lib.hid hg
  have HW := Lib.hid hw0
  have hrm := hin.rng
  have hcn := hin.cnt
  clear key keq hbe hb hin hS h0 hA x0 hg hw0 h
  by_cases hr : room ≤ E.length
  · have hE : qputE room E ⟨bl, a, b, y, t⟩ = 11 := by unfold qputE; rw [if_neg (by simp only; omega), if_pos hr]
    rw [hE, HQ.out.2 hE]
    have hr' : (room : Int) ≤ (E.length : Int) := by omega
    go_enter Tryz.func114, Tryz.ntmps114
    go_upto_region 1 with fail
    rw [← HW.out, ← HG.out]
    go_wp2_with fail
    go_quiet (fail)
    go_wp2_with fail
    go_ret
    exact ⟨rfl, S, ⟨pq, lv, V, rfl, HIN.out.mod (KEY.out.2.2.2.1.drewN nq) (fun k _ h => h), HS.out⟩, Ext.mod (KEY.out.2.2.2.1.drewN nq) S, fun k hk => .inl hk⟩
  · have hE : qputE room E ⟨bl, a, b, y, t⟩ = 0 := by unfold qputE; rw [if_neg (by simp only; omega), if_neg hr]
    have hP : qput room E ⟨bl, a, b, y, t⟩ = E ++ [⟨bl, a, b, y, t⟩] := by unfold qput; rw [if_pos hE]
    rw [hE, hP]
    have hr' : ¬ (room : Int) ≤ (E.length : Int) := by omega
    go_enter Tryz.func114, Tryz.ntmps114
    go_upto_region 1 with fail
    rw [← HW.out, ← HG.out]
    go_wp2_with fail
    go_quiet (fail)
    go_wp2_with fail
    obtain ⟨wa, hwa⟩ : ∃ wa, wa = w0.drewN nq := ⟨_, rfl⟩
    have xa : Ext w0 wa := by rw [hwa]; exact (Mod.refl _ _).drewN nq
    have XA := Lib.hid xa
    refine (copy_bytes _ vb b (KEY.out.2.2.1 _ ((Mod.refl _ _).drewN nq)) (by omega)).mono ?_
    rintro en w2 ⟨v1, rfl, o1, y1, f1⟩
    rw [List.length_map] at o1
    rw [← hwa] at y1 f1
    clear hwa xa c0 c1 c2 c3 c4 q0 q1
    obtain ⟨la1, lc1, hv1, _⟩ := o1.sl.shape
    subst hv1
    have X2 : Ext w0 w2 := XA.out.trans y1
    obtain ⟨c0, c1, c2, c3, c4⟩ := KEY.out.1 w2 X2
    have hb2 := X2.blk KEY.out.2.2.2.2
    have f2 : w2.frozen? ⟨g, 2, none⟩ = false := by simp [World.frozen?, hb2]
    obtain ⟨w3, hw3⟩ : ∃ W, W = w2.setCell ⟨g, 2, none⟩ (.slice la1 b.length lc1) := ⟨_, rfl⟩
    have M3 : Mod (fun q => q = g) w2 w3 := by rw [hw3]; exact Mod.setCell (F := fun q => q = g) (Mod.refl _ _) (.inl rfl) _
    have hb3 : w3.heap[g]? = some (.cells #[.int .i64 bl, .int .i64 a, .slice la1 b.length lc1, .int .i64 y, .bool t] 155 (0, 0)) := by rw [hw3]; simp [World.setCell, Array.getElem?_modify, hb2]
    have x3 : Ext w w3 := (KEY.out.2.2.2.1.trans X2).trans' M3 (fun q hq => .inr (by rw [hq, HG.out]; exact Nat.le_refl _))
    have o3 : Own w3 5 1 (.slice la1 b.length lc1) b.length (b.map bv) := o1.mod M3 (fun k hk e => by have h1 := f1 k hk; have h2 := XA.out.size; have h3 := lt_of_block KEY.out.2.2.2.2; omega)
    have f3 : ∀ k, (Value.slice la1 b.length lc1).ownBlock = some k → w.heap.size ≤ k := fun k hk => by have h1 := f1 k hk; have h2 := XA.out.size; have h3 := KEY.out.2.2.2.1.size; omega
    have hin3 := HIN.out.mod x3 (fun k _ h => h)
    have KM : Hid (∀ w', Mod (fun q => lv.ownBlock = some q) w3 w' → (w'.cell? ⟨pq, 1, none⟩ = some lv ∧ w'.cell? ⟨g, 0, none⟩ = some (.int .i64 bl) ∧ w'.cell? ⟨g, 1, none⟩ = some (.int .i64 a) ∧ w'.cell? ⟨g, 2, none⟩ = some (.slice la1 b.length lc1) ∧ w'.cell? ⟨g, 3, none⟩ = some (.int .i64 y) ∧ w'.cell? ⟨g, 4, none⟩ = some (.bool t)) ∧ w'.frozen? ⟨pq, 1, none⟩ = false) := Lib.hid fun w' M => by
     have h5 := M.blk hin3.box (fun h => hin3.row.apart_obj hin3.box (by decide) h)
     have h6 := M.blk hb3 (fun h => by have h7 := HIN.out.row.lt h; have := HG.out; omega)
     exact ⟨by simp [World.cell?, h5, h6], by simp [World.frozen?, h5]⟩
    have HB := Lib.hid (And.intro x3 (And.intro hin3 (And.intro o3 f3)))
    have HW3 := Lib.hid hw3
    clear o1 y1 f1 X2 hb2 M3 hb3 x3 o3 f3 hin3 hw3
    go_upto_region 6 with fail
    rw [← HW3.out]
    clear c0 c1 c2 c3 c4 f2
    refine wp_region_planL [10] [(0, 3), (1, 0), (2, 0), (3, 0), (4, 0), (5, 0), (6, 1), (7, 1), (8, 3), (9, 3), (10, 2)] (fun w' => w'.cell? ⟨pq, 1, none⟩ = some lv ∧ w'.cell? ⟨g, 0, none⟩ = some (.int .i64 bl) ∧ w'.cell? ⟨g, 1, none⟩ = some (.int .i64 a) ∧ w'.cell? ⟨g, 2, none⟩ = some (.slice la1 b.length lc1) ∧ w'.cell? ⟨g, 3, none⟩ = some (.int .i64 y) ∧ w'.cell? ⟨g, 4, none⟩ = some (.bool t)) (by kernel_rfl) (by kernel_rfl) (by kernel_rfl) (fun _ d _ _ _ h => by cases d <;> exact h) ((KM.out _ (Ext.mod (Mod.drew (Mod.refl _ _)) _)).1) ?_
    obtain ⟨wd, hwd⟩ : ∃ x, x = w3.drew := ⟨_, rfl⟩
    have xd : Ext w3 wd := by rw [hwd]; exact (Mod.drew (Mod.refl _ _))
    rw [← hwd]
    clear hwd
    simp only [planLL, getO]
    (refine planL_pure (v := ?_) (by rfl) (fun wS => ?_) ?_; rotate_left; (focus (go_simp; (try with_reducible rfl); done)); (try simp only [Act.put, List.setIfInBounds_toArray, List.set_cons_zero, List.set_cons_succ]))
    iterate 5 (refine planL_take (v := ?_) (by rfl) (fun wS hS => ?_) ?_; rotate_left; (focus ((try dsimp only at hS); go_simp; (try with_reducible rfl); done)); (try simp only [Act.put, List.setIfInBounds_toArray, List.set_cons_zero, List.set_cons_succ]))
    refine planL_call (fun K hK => ?_)
    go_simp
    skip
    refine hK.out _ _ ((KM.out _ (Ext.mod (xd.alloc _) _)).1) ?_
    clear hK K
    (try simp only [Act.put, List.setIfInBounds_toArray, List.set_cons_zero, List.set_cons_succ])
    refine planL_call (fun K hK => ?_)
    refine step_app IRQ rfl (.tmp 53) (.tmp 55) rfl (HB.out.2.1.row.ext (xd.alloc _)) (built_sl (n := 1) (g := wd.heap.size) (e := 155) (cs := #[.int .i64 bl, .int .i64 a, .slice la1 b.length lc1, .int .i64 y, .bool t]) (by simp only [heap_alloc_if, if_true]; (try rfl)) rfl (by simp only [maxLen]; omega)) (one5 _ _ _ _ _ _ _) (by simp [Act.eval]) (by simp [Act.eval]; (try rfl)) (by omega) (by simp only [maxLen]; omega) ?_; intro hv9 w9 ol9 gr9 fr9 nn9; obtain ⟨la9, lc9, hlv9, _⟩ := ol9.sl.shape; subst hlv9; have MM : Mod (fun q => lv.ownBlock = some q) w3 w9 := Mod.grown ((Ext.mod xd _).alloc _) gr9 (fun q h => .inl h); obtain ⟨⟨e50, -⟩, ef5⟩ := KM.out w9 MM
    refine hK.out _ _ ((KM.out _ MM).1) ?_
    clear hK K
    (try simp only [Act.put, List.setIfInBounds_toArray, List.set_cons_zero, List.set_cons_succ])
    iterate 2 (refine planL_pure (v := ?_) (by rfl) (fun wS => ?_) ?_; rotate_left; (focus (go_simp; (try with_reducible rfl); done)); (try simp only [Act.put, List.setIfInBounds_toArray, List.set_cons_zero, List.set_cons_succ]))
    refine planL_late (fun K hK => ?_)
    go_simp
    refine hK.out _ _ ?_
    clear hK K
    (try simp only [Act.put, List.setIfInBounds_toArray, List.set_cons_zero, List.set_cons_succ])
    refine planL_nil ?_
    have F9 : ∀ q, (Value.slice la9 (E.length + 1) lc9).ownBlock = some q → lv.ownBlock = some q ∨ w3.heap.size ≤ q := fun q hq => (fr9 q hq).imp id (fun h => by simp only [World.size_alloc] at h; have h2 := xd.size; omega)
    have P := rq_push (e := ⟨bl, a, b, y, t⟩) HIN.out HB.out.1 MM ol9 F9 HB.out.2.2.1 HB.out.2.2.2 ⟨by have := hI.1; simp [I64] at this; simp only; omega, by simp only; omega, by have := hI.2; simp [I64] at this; simp only; omega, by simp only; omega⟩ (by omega)
    have HP := Lib.hid P
    clear P F9 MM ol9 gr9 fr9 nn9 e50 ef5
    go_wp2_with fail
    go_ret
    obtain ⟨P1, P2, P3⟩ := HP.out
    exact ⟨rfl, _, ⟨pq, _, _, rfl, P1, fun q => Iff.rfl⟩, P2.weak (fun q hq => .inl ((HS.out q).2 hq)), fun q hq => (P3 q hq).imp (HS.out q).2 id⟩
 all_goals
  have hE : qputE room E ⟨bl, a, b, y, t⟩ = 1 := by unfold qputE; rw [if_pos (by simp only; omega)]
  rw [hE, HQ.out.1 hE]
  go_enter Tryz.func114, Tryz.ntmps114
  go_wp2_with fail
  go_ret
  exact ⟨rfl, S, h.ext ((Mod.refl _ _).alloc _), hA _, fun k hk => .inl hk⟩
end Go.Proofs.YtbhocahmhmafmaaGreat
