/-
  RaceSeq: the walk of renlaw17.RaceSeq. No condition.
-/
import Derived.Test.YthmkcgiiakinmaaRaceFst
namespace Go.Ren
def allB (p : Nat → Bool) (k : Nat) : Bool := (List.range k).all p
theorem allB_succ (p : Nat → Bool) (k : Nat) : allB p (k + 1) = (allB p k && p k) := by simp [allB, List.range_succ, List.all_append]
theorem allB_iff {p : Nat → Bool} {k : Nat} : allB p k = true ↔ ∀ i, i < k → p i = true := by simp [allB, List.all_eq_true]
def agP (L : Lg) (i : Nat) : Bool := ((evn L.ev i).ag == (evn L.ev 0).ag)
def sqP (L : Lg) (i : Nat) : Bool := (evn L.ev i).seq && evEq (evn L.ev i) (evn L.ev 0)
def ldP (L : Lg) (i : Nat) : Bool := !wrsB (evn L.ev i)
theorem seq_none {L : Lg} (h : (allB (agP L) L.ev.length || allB (sqP L) L.ev.length || allB (ldP L) L.ev.length) = true) : cfL L = [] := by
  rw [Bool.or_eq_true, Bool.or_eq_true, allB_iff, allB_iff, allB_iff] at h
  rcases h with (h | h) | h
  · exact alone_none fun i hi => by have := h i hi; unfold agP at this; exact eq_of_beq this
  · exact same_none fun i hi => by have := h i hi; unfold sqP at this; rwa [Bool.and_eq_true] at this
  · exact loads_none fun i hi => by have := h i hi; unfold ldP at this; simpa using this
end Go.Ren
namespace Go.Proofs.Ythmkcgiiakinmaa
open Go.Ren Go.RowKit
set_option linter.unusedVariables false

/-- From the two numbers on. -/
def SeqMid (L : Lg) (ve vp : Value) (V : Nat → Vs) (g0 : Nat) (w0 w : World) : Prop := Ext w0 w
set_option maxRecDepth 100000 in
set_option maxHeartbeats 3200000 in
theorem raceSeq_all (w : World) (ve vp : Value) (V : Nat → Vs) (L : Lg) (h : LogIn w ve vp V L) (a b : Int) :
    Calls Try.prog 6 #[.agg #[ve, vp], .int .i64 a, .int .i64 b] w (FPost true w) := by
  have q1 := Sl.cells_eq h.row
  have q2 := Sl.cells_eq h.prow
  have s1 := Sl.run_st (P := Try.prog) h.row
  have s2 := Sl.run_st (P := Try.prog) h.prow
  obtain ⟨w0, hw0⟩ : ∃ w0, w0 = w.alloc (.cells #[ve, vp] 25) := ⟨_, rfl⟩
  obtain ⟨g0, hg0⟩ : ∃ g, g = w.heap.size := ⟨_, rfl⟩
  have x0 : Ext w w0 := by rw [hw0]; exact (Mod.refl _ _).alloc _
  have b0 : LogBox w0 g0 ve vp := ⟨by rw [hw0, hg0]; exact heap_alloc_new _ _⟩
  have HW := Lib.hid (And.intro hw0 (And.intro hg0 x0))
  have KE : Hid (∀ w', Ext w0 w' → LogIn w' ve vp V L ∧ LogBox w' g0 ve vp) := Lib.hid fun w' x => ⟨h.ext (x0.trans x), b0.ext x⟩
  have HI := Lib.hid (h.row.run_idx (P := Try.prog) IEv.und IEv.size .i64)
  have HJ := Lib.hid (h.prow.run_idx (P := Try.prog) IP.und IP.size .i64)
  have l1 := h.row.run_len (P := Try.prog) IEv.und 3
  have l2 := h.prow.run_len (P := Try.prog) IP.und 3
  clear hw0 hg0 x0 b0 h
  go_enter Try.func6, Try.ntmps6
  go_upto_region 1 with fail
  rw [← HW.out.1, ← HW.out.2.1]
  clear s1 s2
  go_wp2_with fail
  refine (first17_any _).mono ?_
  rintro e w1 ⟨rfl, x1⟩
  obtain ⟨c0, c1⟩ := (KE.out _ x1).2.cells
  go_wp2_with fail
  refine (few_any _ _ _ V L (KE.out _ x1).1 40 (by decide)).mono ?_
  rintro r w2 ⟨⟨r, rfl, hf⟩, y2⟩
  have X2 : Ext w0 w2 := x1.trans y2
  clear c0 c1
  obtain ⟨c0, c1⟩ := (KE.out _ X2).2.cells
  cases r with
  | false =>
    clear hf
    go_wp2_with fail
    refine (first17_any _).mono ?_
    rintro e w3 ⟨rfl, x3⟩
    go_wp2_with fail
    go_ret
    exact ⟨rfl, (HW.out.2.2.trans X2).trans x3⟩
  | true =>
    have HS : Hid (L.ev.length ≤ 40 ∧ L.pr.length ≤ 40 ∧ ∀ i, i < L.ev.length → (evn L.ev i).rd.length ≤ 20000 ∧ (evn L.ev i).wr.length ≤ 20000 ∧ (evn L.ev i).fr.length ≤ 20000) := Lib.hid (hf rfl)
    have hle : (L.ev.length : Int) ≤ 40 := by have := HS.out.1; omega
    have hle2 : (L.pr.length : Int) ≤ 40 := by have := HS.out.2.1; omega
    clear hf
    go_wp2_with fail
    refine (may_any _ ve vp V L (KE.out _ X2).1).mono ?_
    rintro e w3 ⟨rfl, y3⟩
    have X3 : Ext w0 w3 := X2.trans y3
    clear c0 c1
    obtain ⟨c0, c1⟩ := (KE.out _ X3).2.cells
    cases hm : mayL L with
    | false =>
      clear hm
      go_wp2_with fail
      refine (first17_any _).mono ?_
      rintro e w4 ⟨rfl, x4⟩
      go_wp2_with fail
      go_ret
      exact ⟨rfl, (HW.out.2.2.trans X3).trans x4⟩
    | true =>
      have HM := Lib.hid hm
      clear hm
      have HX3 := Lib.hid X3
      go_wp2_with fail
      clear c0 c1
      go_loopw [7, 8, 9, 10] (fun s7 s8 s9 s10 wr => ∃ k : Nat, k ≤ L.ev.length ∧ s7 = .bool (allB (agP L) k) ∧ s8 = .bool (allB (sqP L) k) ∧ s9 = .bool (allB (ldP L) k) ∧ s10 = .int .i64 (k : Int) ∧ Ext w3 wr) (fun _ _ _ s _ => L.ev.length - (intOf s).toNat)
      case atStart => exact ⟨0, Nat.zero_le _, rfl, rfl, rfl, rfl, Mod.refl _ _⟩
      case round =>
        obtain ⟨k, hk, rfl, rfl, rfl, rfl, x⟩ := hrel
        have XW := Lib.hid x
        obtain ⟨c0, c1⟩ := (KE.out _ (HX3.out.trans x)).2.cells
        clear x
        obtain ⟨A1', hA1'⟩ : ∃ B, B = allB (agP L) k := ⟨_, rfl⟩
        obtain ⟨A2', hA2'⟩ : ∃ B, B = allB (sqP L) k := ⟨_, rfl⟩
        obtain ⟨A3', hA3'⟩ : ∃ B, B = allB (ldP L) k := ⟨_, rfl⟩
        rw [← hA1', ← hA2', ← hA3']
        by_cases hkl : k < L.ev.length
        · have hkl' : (k : Int) < (L.ev.length : Int) := by omega
          have h0l : 0 < L.ev.length := by omega
          have h0l' : (0 : Int) < (L.ev.length : Int) := by omega
          have i0 := HI.out k hkl
          have i1 : ∀ w', (Instr.indexAt 22 ve (.int .i64 0)).run Try.prog w' = .ok (.pointer (some (at_ ve (0 * 10)))) w' := HI.out 0 h0l
          obtain ⟨y, hy⟩ : ∃ e, e = evn L.ev 0 := ⟨_, rfl⟩
          obtain ⟨v, hv⟩ : ∃ v, v = V 0 := ⟨_, rfl⟩
          obtain ⟨x, hx⟩ : ∃ e, e = evn L.ev k := ⟨_, rfl⟩
          obtain ⟨u, hu⟩ : ∃ v, v = V k := ⟨_, rfl⟩
          obtain ⟨A1, hA1⟩ : ∃ A, A = at_ ve (k * 10) := ⟨_, rfl⟩
          obtain ⟨A2, hA2⟩ : ∃ A, A = at_ ve (0 * 10) := ⟨_, rfl⟩
          rw [← hA1] at i0
          rw [← hA2] at i1
          obtain ⟨S1, hS1⟩ : ∃ S, S = x.seq := ⟨_, rfl⟩
          obtain ⟨S2, hS2⟩ : ∃ S, S = y.seq := ⟨_, rfl⟩
          obtain ⟨Q, hQ⟩ : ∃ Q, Q = evEq x y := ⟨_, rfl⟩
          obtain ⟨WR, hWR⟩ : ∃ Q, Q = wrsB x := ⟨_, rfl⟩
          have N1 : Hid (allB (agP L) (k + 1) = (A1' && (x.ag == y.ag))) := Lib.hid (by rw [allB_succ, ← hA1', hx, hy]; rfl)
          have N2 : Hid (allB (sqP L) (k + 1) = (A2' && (S1 && Q))) := Lib.hid (by rw [allB_succ, ← hA2', hS1, hQ, hx, hy]; rfl)
          have N3 : Hid (allB (ldP L) (k + 1) = (A3' && !WR)) := Lib.hid (by rw [allB_succ, ← hA3', hWR, hx]; rfl)
          have HQ := Lib.hid hQ.symm
          have HWR := Lib.hid hWR.symm
          have KG : Hid (∀ w', Ext w3 w' → w'.cell? ⟨g0, 0, none⟩ = some ve ∧ w'.cell? A1 = some (.int .i64 (x).ag) ∧ w'.cell? ⟨A1.block, A1.off + 1, none⟩ = some (.int .i64 (x).kind) ∧ w'.cell? ⟨A1.block, A1.off + 2, none⟩ = some (.bool S1) ∧ w'.cell? ⟨A1.block, A1.off + 3, none⟩ = some (.bool (x).nt) ∧ w'.cell? ⟨A1.block, A1.off + 4, none⟩ = some (.int .i64 (x).blk) ∧ w'.cell? ⟨A1.block, A1.off + 5, none⟩ = some (.int .i64 (x).at_) ∧ w'.cell? ⟨A1.block, A1.off + 6, none⟩ = some (.int .i64 (x).size) ∧ w'.cell? ⟨A1.block, A1.off + 7, none⟩ = some u.r ∧ w'.cell? ⟨A1.block, A1.off + 8, none⟩ = some u.w ∧ w'.cell? ⟨A1.block, A1.off + 9, none⟩ = some u.f ∧ w'.cell? A2 = some (.int .i64 (y).ag) ∧ w'.cell? ⟨A2.block, A2.off + 1, none⟩ = some (.int .i64 (y).kind) ∧ w'.cell? ⟨A2.block, A2.off + 2, none⟩ = some (.bool S2) ∧ w'.cell? ⟨A2.block, A2.off + 3, none⟩ = some (.bool (y).nt) ∧ w'.cell? ⟨A2.block, A2.off + 4, none⟩ = some (.int .i64 (y).blk) ∧ w'.cell? ⟨A2.block, A2.off + 5, none⟩ = some (.int .i64 (y).at_) ∧ w'.cell? ⟨A2.block, A2.off + 6, none⟩ = some (.int .i64 (y).size) ∧ w'.cell? ⟨A2.block, A2.off + 7, none⟩ = some v.r ∧ w'.cell? ⟨A2.block, A2.off + 8, none⟩ = some v.w ∧ w'.cell? ⟨A2.block, A2.off + 9, none⟩ = some v.f) := Lib.hid fun w' z => by
            have h1 := KE.out _ (HX3.out.trans z)
            have h2 := h1.1.cells hkl
            have h3 := h1.1.cells h0l
            rw [← hx, ← hu, ← hA1, ← hS1] at h2
            rw [← hy, ← hv, ← hA2, ← hS2] at h3
            obtain ⟨a0, a1, a2, a3, a4, a5, a6, a7, a8, a9⟩ := h2
            exact ⟨h1.2.cells.1, a0, a1, a2, a3, a4, a5, a6, a7, a8, a9, h3⟩
          have KV : Hid (∀ w', Ext w3 w' → EvAt w' ⟨x.ag, x.kind, S1, x.nt, x.blk, x.at_, x.size, x.rd, x.wr, x.fr⟩ u ∧ EvAt w' ⟨y.ag, y.kind, S2, y.nt, y.blk, y.at_, y.size, y.rd, y.wr, y.fr⟩ v) := Lib.hid fun w' z => by
            rw [hS1, hS2, hx, hy, hu, hv]; exact ⟨(KE.out _ (HX3.out.trans z)).1.ev k hkl, (KE.out _ (HX3.out.trans z)).1.ev 0 h0l⟩
          have hf1 := ev_facts (KV.out _ (Mod.refl _ _)).1
          have hf2 := ev_facts (KV.out _ (Mod.refl _ _)).2
          obtain ⟨k1, k2, k3, -⟩ := hf1
          obtain ⟨k4, k5, k6, -⟩ := hf2
          clear hA1' hA2' hA3' hx hu hy hv hA1 hA2 hS1 hS2 hQ hWR
          go_upto_region 9 with fail
          clear c0 c1
          go_cut [7] (fun s7 wq => s7 = .bool (A1' && (x.ag == y.ag)) ∧ Ext w3 wq)
          case first =>
            cases A1' with
            | false =>
              refine wp_region_plan [(0, true), (1, true), (2, true), (3, true), (4, true), (5, true), (6, true), (7, true), (8, true), (9, true), (10, true), (11, true), (12, true), (13, true), (14, true), (15, true)] (fun w' => w'.cell? ⟨g0, 0, none⟩ = some ve ∧ w'.cell? A1 = some (.int .i64 (x).ag) ∧ w'.cell? ⟨A1.block, A1.off + 1, none⟩ = some (.int .i64 (x).kind) ∧ w'.cell? ⟨A1.block, A1.off + 2, none⟩ = some (.bool S1) ∧ w'.cell? ⟨A1.block, A1.off + 3, none⟩ = some (.bool (x).nt) ∧ w'.cell? ⟨A1.block, A1.off + 4, none⟩ = some (.int .i64 (x).blk) ∧ w'.cell? ⟨A1.block, A1.off + 5, none⟩ = some (.int .i64 (x).at_) ∧ w'.cell? ⟨A1.block, A1.off + 6, none⟩ = some (.int .i64 (x).size) ∧ w'.cell? ⟨A1.block, A1.off + 7, none⟩ = some u.r ∧ w'.cell? ⟨A1.block, A1.off + 8, none⟩ = some u.w ∧ w'.cell? ⟨A1.block, A1.off + 9, none⟩ = some u.f ∧ w'.cell? A2 = some (.int .i64 (y).ag) ∧ w'.cell? ⟨A2.block, A2.off + 1, none⟩ = some (.int .i64 (y).kind) ∧ w'.cell? ⟨A2.block, A2.off + 2, none⟩ = some (.bool S2) ∧ w'.cell? ⟨A2.block, A2.off + 3, none⟩ = some (.bool (y).nt) ∧ w'.cell? ⟨A2.block, A2.off + 4, none⟩ = some (.int .i64 (y).blk) ∧ w'.cell? ⟨A2.block, A2.off + 5, none⟩ = some (.int .i64 (y).at_) ∧ w'.cell? ⟨A2.block, A2.off + 6, none⟩ = some (.int .i64 (y).size) ∧ w'.cell? ⟨A2.block, A2.off + 7, none⟩ = some v.r ∧ w'.cell? ⟨A2.block, A2.off + 8, none⟩ = some v.w ∧ w'.cell? ⟨A2.block, A2.off + 9, none⟩ = some v.f) (by kernel_rfl) (by kernel_rfl) (by kernel_rfl) (fun _ d _ _ _ h => by cases d <;> exact h) (KG.out _ (XW.out.trans (Mod.drew (Mod.refl _ _)))) ?_
              simp only [planL, getO]
              iterate 2 (refine plan_take (v := ?_) (by rfl) (fun wS hS => ?_) ?_; rotate_left; (focus ((try dsimp only at hS); go_simp; (try with_reducible rfl); done)); (try simp only [Act.put, List.setIfInBounds_toArray, List.set_cons_zero, List.set_cons_succ]))
              iterate 12 (refine plan_skip (by rfl) ?_; (try simp only [Act.put, List.setIfInBounds_toArray, List.set_cons_zero, List.set_cons_succ]))
              iterate 2 (refine plan_take (v := ?_) (by rfl) (fun wS hS => ?_) ?_; rotate_left; (focus ((try dsimp only at hS); go_simp; (try with_reducible rfl); done)); (try simp only [Act.put, List.setIfInBounds_toArray, List.set_cons_zero, List.set_cons_succ]))
              refine plan_nil ?_
              go_wp2_with fail
              go_meet
              exact ⟨rfl, XW.out.trans (Mod.drew (Mod.refl _ _))⟩
            | true =>
              refine wp_region_plan [(0, true), (1, true), (2, true), (3, true), (4, true), (5, true), (6, true), (7, true), (8, true), (9, true), (10, true), (11, true), (12, true), (13, true), (14, true), (15, true)] (fun w' => w'.cell? ⟨g0, 0, none⟩ = some ve ∧ w'.cell? A1 = some (.int .i64 (x).ag) ∧ w'.cell? ⟨A1.block, A1.off + 1, none⟩ = some (.int .i64 (x).kind) ∧ w'.cell? ⟨A1.block, A1.off + 2, none⟩ = some (.bool S1) ∧ w'.cell? ⟨A1.block, A1.off + 3, none⟩ = some (.bool (x).nt) ∧ w'.cell? ⟨A1.block, A1.off + 4, none⟩ = some (.int .i64 (x).blk) ∧ w'.cell? ⟨A1.block, A1.off + 5, none⟩ = some (.int .i64 (x).at_) ∧ w'.cell? ⟨A1.block, A1.off + 6, none⟩ = some (.int .i64 (x).size) ∧ w'.cell? ⟨A1.block, A1.off + 7, none⟩ = some u.r ∧ w'.cell? ⟨A1.block, A1.off + 8, none⟩ = some u.w ∧ w'.cell? ⟨A1.block, A1.off + 9, none⟩ = some u.f ∧ w'.cell? A2 = some (.int .i64 (y).ag) ∧ w'.cell? ⟨A2.block, A2.off + 1, none⟩ = some (.int .i64 (y).kind) ∧ w'.cell? ⟨A2.block, A2.off + 2, none⟩ = some (.bool S2) ∧ w'.cell? ⟨A2.block, A2.off + 3, none⟩ = some (.bool (y).nt) ∧ w'.cell? ⟨A2.block, A2.off + 4, none⟩ = some (.int .i64 (y).blk) ∧ w'.cell? ⟨A2.block, A2.off + 5, none⟩ = some (.int .i64 (y).at_) ∧ w'.cell? ⟨A2.block, A2.off + 6, none⟩ = some (.int .i64 (y).size) ∧ w'.cell? ⟨A2.block, A2.off + 7, none⟩ = some v.r ∧ w'.cell? ⟨A2.block, A2.off + 8, none⟩ = some v.w ∧ w'.cell? ⟨A2.block, A2.off + 9, none⟩ = some v.f) (by kernel_rfl) (by kernel_rfl) (by kernel_rfl) (fun _ d _ _ _ h => by cases d <;> exact h) (KG.out _ (XW.out.trans (Mod.drew (Mod.refl _ _)))) ?_
              simp only [planL, getO]
              iterate 16 (refine plan_take (v := ?_) (by rfl) (fun wS hS => ?_) ?_; rotate_left; (focus ((try dsimp only at hS); go_simp; (try with_reducible rfl); done)); (try simp only [Act.put, List.setIfInBounds_toArray, List.set_cons_zero, List.set_cons_succ]))
              refine plan_nil ?_
              go_wp2_with fail
              go_meet
              exact ⟨rfl, XW.out.trans (Mod.drew (Mod.refl _ _))⟩
          case rest =>
            obtain ⟨rfl, hcut⟩ := hcut
            have XD := Lib.hid hcut
            clear hcut
            go_upto_region 10 with fail
            go_cut [8] (fun s8 wq => s8 = .bool (A2' && (S1 && Q)) ∧ Ext w3 wq)
            case first =>
              cases A2' with
              | false =>
                refine wp_region_plan [(0, true), (1, true), (2, true), (3, true), (4, true), (5, true), (6, true), (7, true), (8, true), (9, true), (10, true), (11, true), (12, true), (13, true), (14, true), (15, true), (16, true), (17, true), (18, true), (19, false), (20, true), (21, true)] (fun w' => w'.cell? ⟨g0, 0, none⟩ = some ve ∧ w'.cell? A1 = some (.int .i64 (x).ag) ∧ w'.cell? ⟨A1.block, A1.off + 1, none⟩ = some (.int .i64 (x).kind) ∧ w'.cell? ⟨A1.block, A1.off + 2, none⟩ = some (.bool S1) ∧ w'.cell? ⟨A1.block, A1.off + 3, none⟩ = some (.bool (x).nt) ∧ w'.cell? ⟨A1.block, A1.off + 4, none⟩ = some (.int .i64 (x).blk) ∧ w'.cell? ⟨A1.block, A1.off + 5, none⟩ = some (.int .i64 (x).at_) ∧ w'.cell? ⟨A1.block, A1.off + 6, none⟩ = some (.int .i64 (x).size) ∧ w'.cell? ⟨A1.block, A1.off + 7, none⟩ = some u.r ∧ w'.cell? ⟨A1.block, A1.off + 8, none⟩ = some u.w ∧ w'.cell? ⟨A1.block, A1.off + 9, none⟩ = some u.f ∧ w'.cell? A2 = some (.int .i64 (y).ag) ∧ w'.cell? ⟨A2.block, A2.off + 1, none⟩ = some (.int .i64 (y).kind) ∧ w'.cell? ⟨A2.block, A2.off + 2, none⟩ = some (.bool S2) ∧ w'.cell? ⟨A2.block, A2.off + 3, none⟩ = some (.bool (y).nt) ∧ w'.cell? ⟨A2.block, A2.off + 4, none⟩ = some (.int .i64 (y).blk) ∧ w'.cell? ⟨A2.block, A2.off + 5, none⟩ = some (.int .i64 (y).at_) ∧ w'.cell? ⟨A2.block, A2.off + 6, none⟩ = some (.int .i64 (y).size) ∧ w'.cell? ⟨A2.block, A2.off + 7, none⟩ = some v.r ∧ w'.cell? ⟨A2.block, A2.off + 8, none⟩ = some v.w ∧ w'.cell? ⟨A2.block, A2.off + 9, none⟩ = some v.f) (by kernel_rfl) (by kernel_rfl) (by kernel_rfl) (fun _ d _ _ _ h => by cases d <;> exact h) (KG.out _ (XD.out.trans (Mod.drew (Mod.refl _ _)))) ?_
                simp only [planL, getO]
                iterate 2 (refine plan_take (v := ?_) (by rfl) (fun wS hS => ?_) ?_; rotate_left; (focus ((try dsimp only at hS); go_simp; (try with_reducible rfl); done)); (try simp only [Act.put, List.setIfInBounds_toArray, List.set_cons_zero, List.set_cons_succ]))
                iterate 6 (refine plan_skip (by rfl) ?_; (try simp only [Act.put, List.setIfInBounds_toArray, List.set_cons_zero, List.set_cons_succ]))
                iterate 2 (refine plan_take (v := ?_) (by rfl) (fun wS hS => ?_) ?_; rotate_left; (focus ((try dsimp only at hS); go_simp; (try with_reducible rfl); done)); (try simp only [Act.put, List.setIfInBounds_toArray, List.set_cons_zero, List.set_cons_succ]))
                iterate 9 (refine plan_skip (by rfl) ?_; (try simp only [Act.put, List.setIfInBounds_toArray, List.set_cons_zero, List.set_cons_succ]))
                (refine plan_skip (by rfl) ?_; (try simp only [Act.put, List.setIfInBounds_toArray, List.set_cons_zero, List.set_cons_succ]))
                iterate 2 (refine plan_take (v := ?_) (by rfl) (fun wS hS => ?_) ?_; rotate_left; (focus ((try dsimp only at hS); go_simp; (try with_reducible rfl); done)); (try simp only [Act.put, List.setIfInBounds_toArray, List.set_cons_zero, List.set_cons_succ]))
                refine plan_nil ?_
                go_wp2_with fail
                go_meet
                exact ⟨rfl, XD.out.trans (Mod.drew (Mod.refl _ _))⟩
              | true =>
                cases S1 with
                | false =>
                  refine wp_region_plan [(0, true), (1, true), (2, true), (3, true), (4, true), (5, true), (6, true), (7, true), (8, true), (9, true), (10, true), (11, true), (12, true), (13, true), (14, true), (15, true), (16, true), (17, true), (18, true), (19, false), (20, true), (21, true)] (fun w' => w'.cell? ⟨g0, 0, none⟩ = some ve ∧ w'.cell? A1 = some (.int .i64 (x).ag) ∧ w'.cell? ⟨A1.block, A1.off + 1, none⟩ = some (.int .i64 (x).kind) ∧ w'.cell? ⟨A1.block, A1.off + 2, none⟩ = some (.bool false) ∧ w'.cell? ⟨A1.block, A1.off + 3, none⟩ = some (.bool (x).nt) ∧ w'.cell? ⟨A1.block, A1.off + 4, none⟩ = some (.int .i64 (x).blk) ∧ w'.cell? ⟨A1.block, A1.off + 5, none⟩ = some (.int .i64 (x).at_) ∧ w'.cell? ⟨A1.block, A1.off + 6, none⟩ = some (.int .i64 (x).size) ∧ w'.cell? ⟨A1.block, A1.off + 7, none⟩ = some u.r ∧ w'.cell? ⟨A1.block, A1.off + 8, none⟩ = some u.w ∧ w'.cell? ⟨A1.block, A1.off + 9, none⟩ = some u.f ∧ w'.cell? A2 = some (.int .i64 (y).ag) ∧ w'.cell? ⟨A2.block, A2.off + 1, none⟩ = some (.int .i64 (y).kind) ∧ w'.cell? ⟨A2.block, A2.off + 2, none⟩ = some (.bool S2) ∧ w'.cell? ⟨A2.block, A2.off + 3, none⟩ = some (.bool (y).nt) ∧ w'.cell? ⟨A2.block, A2.off + 4, none⟩ = some (.int .i64 (y).blk) ∧ w'.cell? ⟨A2.block, A2.off + 5, none⟩ = some (.int .i64 (y).at_) ∧ w'.cell? ⟨A2.block, A2.off + 6, none⟩ = some (.int .i64 (y).size) ∧ w'.cell? ⟨A2.block, A2.off + 7, none⟩ = some v.r ∧ w'.cell? ⟨A2.block, A2.off + 8, none⟩ = some v.w ∧ w'.cell? ⟨A2.block, A2.off + 9, none⟩ = some v.f) (by kernel_rfl) (by kernel_rfl) (by kernel_rfl) (fun _ d _ _ _ h => by cases d <;> exact h) (KG.out _ (XD.out.trans (Mod.drew (Mod.refl _ _)))) ?_
                  simp only [planL, getO]
                  iterate 10 (refine plan_take (v := ?_) (by rfl) (fun wS hS => ?_) ?_; rotate_left; (focus ((try dsimp only at hS); go_simp; (try with_reducible rfl); done)); (try simp only [Act.put, List.setIfInBounds_toArray, List.set_cons_zero, List.set_cons_succ]))
                  iterate 9 (refine plan_skip (by rfl) ?_; (try simp only [Act.put, List.setIfInBounds_toArray, List.set_cons_zero, List.set_cons_succ]))
                  (refine plan_skip (by rfl) ?_; (try simp only [Act.put, List.setIfInBounds_toArray, List.set_cons_zero, List.set_cons_succ]))
                  iterate 2 (refine plan_take (v := ?_) (by rfl) (fun wS hS => ?_) ?_; rotate_left; (focus ((try dsimp only at hS); go_simp; (try with_reducible rfl); done)); (try simp only [Act.put, List.setIfInBounds_toArray, List.set_cons_zero, List.set_cons_succ]))
                  refine plan_nil ?_
                  go_wp2_with fail
                  go_meet
                  exact ⟨rfl, XD.out.trans (Mod.drew (Mod.refl _ _))⟩
                | true =>
                  refine wp_region_plan [(0, true), (1, true), (2, true), (3, true), (4, true), (5, true), (6, true), (7, true), (8, true), (9, true), (10, true), (11, true), (12, true), (13, true), (14, true), (15, true), (16, true), (17, true), (18, true), (19, false), (20, true), (21, true)] (fun w' => w'.cell? ⟨g0, 0, none⟩ = some ve ∧ w'.cell? A1 = some (.int .i64 (x).ag) ∧ w'.cell? ⟨A1.block, A1.off + 1, none⟩ = some (.int .i64 (x).kind) ∧ w'.cell? ⟨A1.block, A1.off + 2, none⟩ = some (.bool true) ∧ w'.cell? ⟨A1.block, A1.off + 3, none⟩ = some (.bool (x).nt) ∧ w'.cell? ⟨A1.block, A1.off + 4, none⟩ = some (.int .i64 (x).blk) ∧ w'.cell? ⟨A1.block, A1.off + 5, none⟩ = some (.int .i64 (x).at_) ∧ w'.cell? ⟨A1.block, A1.off + 6, none⟩ = some (.int .i64 (x).size) ∧ w'.cell? ⟨A1.block, A1.off + 7, none⟩ = some u.r ∧ w'.cell? ⟨A1.block, A1.off + 8, none⟩ = some u.w ∧ w'.cell? ⟨A1.block, A1.off + 9, none⟩ = some u.f ∧ w'.cell? A2 = some (.int .i64 (y).ag) ∧ w'.cell? ⟨A2.block, A2.off + 1, none⟩ = some (.int .i64 (y).kind) ∧ w'.cell? ⟨A2.block, A2.off + 2, none⟩ = some (.bool S2) ∧ w'.cell? ⟨A2.block, A2.off + 3, none⟩ = some (.bool (y).nt) ∧ w'.cell? ⟨A2.block, A2.off + 4, none⟩ = some (.int .i64 (y).blk) ∧ w'.cell? ⟨A2.block, A2.off + 5, none⟩ = some (.int .i64 (y).at_) ∧ w'.cell? ⟨A2.block, A2.off + 6, none⟩ = some (.int .i64 (y).size) ∧ w'.cell? ⟨A2.block, A2.off + 7, none⟩ = some v.r ∧ w'.cell? ⟨A2.block, A2.off + 8, none⟩ = some v.w ∧ w'.cell? ⟨A2.block, A2.off + 9, none⟩ = some v.f) (by kernel_rfl) (by kernel_rfl) (by kernel_rfl) (fun _ d _ _ _ h => by cases d <;> exact h) (KG.out _ (XD.out.trans (Mod.drew (Mod.refl _ _)))) ?_
                  simp only [planL, getO]
                  iterate 19 (refine plan_take (v := ?_) (by rfl) (fun wS hS => ?_) ?_; rotate_left; (focus ((try dsimp only at hS); go_simp; (try with_reducible rfl); done)); (try simp only [Act.put, List.setIfInBounds_toArray, List.set_cons_zero, List.set_cons_succ]))
                  refine plan_call (fun K hK => ?_)
                  go_simp
                  go_at_call 30; refine (equal_any _ ⟨x.ag, x.kind, true, x.nt, x.blk, x.at_, x.size, x.rd, x.wr, x.fr⟩ ⟨y.ag, y.kind, S2, y.nt, y.blk, y.at_, y.size, y.rd, y.wr, y.fr⟩ u v (KV.out _ (XD.out.trans (Mod.drew (Mod.refl _ _)))).1 (KV.out _ (XD.out.trans (Mod.drew (Mod.refl _ _)))).2).mono ?_; rintro e w5 ⟨rfl, y5⟩; have E5 : Ext w3 w5 := (XD.out.trans (Mod.drew (Mod.refl _ _))).trans y5; rw [show evEq ⟨x.ag, x.kind, true, x.nt, x.blk, x.at_, x.size, x.rd, x.wr, x.fr⟩ ⟨y.ag, y.kind, S2, y.nt, y.blk, y.at_, y.size, y.rd, y.wr, y.fr⟩ = Q from HQ.out]
                  refine hK.out _ _ (KG.out _ E5) ?_
                  clear hK K
                  (try simp only [Act.put, List.setIfInBounds_toArray, List.set_cons_zero, List.set_cons_succ])
                  iterate 2 (refine plan_take (v := ?_) (by rfl) (fun wS hS => ?_) ?_; rotate_left; (focus ((try dsimp only at hS); go_simp; (try with_reducible rfl); done)); (try simp only [Act.put, List.setIfInBounds_toArray, List.set_cons_zero, List.set_cons_succ]))
                  refine plan_nil ?_
                  go_wp2_with fail
                  go_meet
                  exact ⟨rfl, E5⟩
            case rest =>
              obtain ⟨rfl, hcut⟩ := hcut
              have XE := Lib.hid hcut
              clear hcut
              have ⟨c0, d0, d1, d2, d3, d4, d5, d6, d7, d8, d9, _⟩ := KG.out _ XE.out
              cases A3' with
              | false =>
                go_wp2_with fail
                go_roundw
                case rel => exact ⟨k + 1, by omega, by rw [N1.out], by rw [N2.out], by rw [N3.out]; rfl, by go_num, XE.out⟩
                case measure => simp [intOf]; omega
              | true =>
                go_wp2_with fail
                refine (writes_any _ ⟨x.ag, x.kind, S1, x.nt, x.blk, x.at_, x.size, x.rd, x.wr, x.fr⟩ u (KV.out _ XE.out).1).mono ?_
                rintro e w6 ⟨rfl, y6⟩
                rw [show wrsB ⟨x.ag, x.kind, S1, x.nt, x.blk, x.at_, x.size, x.rd, x.wr, x.fr⟩ = WR from HWR.out]
                have XF := Lib.hid (XE.out.trans y6)
                clear y6
                go_wp2_with fail
                go_roundw
                case rel => exact ⟨k + 1, by omega, by rw [N1.out], by rw [N2.out], by rw [N3.out]; rfl, by go_num, XF.out⟩
                case measure => simp [intOf]; omega
        · have hkl' : ¬ (k : Int) < (L.ev.length : Int) := by omega
          have hkn : k = L.ev.length := by omega
          have XW2 := Lib.hid (HX3.out.trans XW.out)
          rw [hkn] at hA1' hA2' hA3'
          have HA1 := Lib.hid hA1'.symm
          have HA2 := Lib.hid hA2'.symm
          have HA3 := Lib.hid hA3'.symm
          clear hA1' hA2' hA3' hkn
          go_upto_region 12 with fail
          go_cut [88] (fun s88 wq => s88 = .bool false ∧ Ext w0 wq)
          case first =>
            cases A1' with
            | true =>
              go_wp2_with fail
              refine (conflicts_any _ ve vp V L (KE.out _ XW2.out).1 (by have := HS.out.1; omega)).mono ?_
              rintro e w4 ⟨cv, rfl, oc, y4, -⟩
              have lc := oc.sl.run_len (P := Try.prog) IP.und 3
              rw [show (cfL L).length = 0 by rw [seq_none (by rw [HA1.out, HA2.out, HA3.out]; rfl)]; rfl] at lc
              have XB := Lib.hid (XW2.out.trans y4)
              clear oc y4 c0 c1
              obtain ⟨c0, c1⟩ := (KE.out _ XB.out).2.cells
              go_wp2_with fail
              go_meet
              exact ⟨rfl, XB.out⟩
            | false =>
              cases A2' with
              | true =>
                go_wp2_with fail
                refine (conflicts_any _ ve vp V L (KE.out _ XW2.out).1 (by have := HS.out.1; omega)).mono ?_
                rintro e w4 ⟨cv, rfl, oc, y4, -⟩
                have lc := oc.sl.run_len (P := Try.prog) IP.und 3
                rw [show (cfL L).length = 0 by rw [seq_none (by rw [HA1.out, HA2.out, HA3.out]; rfl)]; rfl] at lc
                have XB := Lib.hid (XW2.out.trans y4)
                clear oc y4 c0 c1
                obtain ⟨c0, c1⟩ := (KE.out _ XB.out).2.cells
                go_wp2_with fail
                go_meet
                exact ⟨rfl, XB.out⟩
              | false =>
                cases A3' with
                | true =>
                  go_wp2_with fail
                  refine (conflicts_any _ ve vp V L (KE.out _ XW2.out).1 (by have := HS.out.1; omega)).mono ?_
                  rintro e w4 ⟨cv, rfl, oc, y4, -⟩
                  have lc := oc.sl.run_len (P := Try.prog) IP.und 3
                  rw [show (cfL L).length = 0 by rw [seq_none (by rw [HA1.out, HA2.out, HA3.out]; rfl)]; rfl] at lc
                  have XB := Lib.hid (XW2.out.trans y4)
                  clear oc y4 c0 c1
                  obtain ⟨c0, c1⟩ := (KE.out _ XB.out).2.cells
                  go_wp2_with fail
                  go_meet
                  exact ⟨rfl, XB.out⟩
                | false =>
                  go_wp2_with fail
                  go_meet
                  exact ⟨rfl, XW2.out⟩
          case rest =>
            obtain ⟨rfl, hcut⟩ := hcut
            have XB := Lib.hid hcut
            clear c0 c1
            obtain ⟨c0, c1⟩ := (KE.out _ hcut).2.cells
            clear hcut hkl hkl' hk
            rcases (by omega : a < 0 ∨ (0 ≤ a ∧ b ≤ a) ∨ (0 ≤ a ∧ a < b ∧ (L.ev.length : Int) ≤ b) ∨ (0 ≤ a ∧ a < b ∧ b < (L.ev.length : Int))) with z1 | ⟨z1, z2⟩ | ⟨z1, z2, z3⟩ | ⟨z1, z2, z3⟩
            case inl =>
              go_wp2_with fail
              refine (first17_any _).mono ?_
              rintro e w4 ⟨rfl, x4⟩
              go_wp2_with fail
              go_ret
              exact ⟨rfl, HW.out.2.2.trans (XB.out.trans x4)⟩
            case inr.inl =>
              have z1' : ¬ a < 0 := by omega
              go_wp2_with fail
              refine (first17_any _).mono ?_
              rintro e w4 ⟨rfl, x4⟩
              go_wp2_with fail
              go_ret
              exact ⟨rfl, HW.out.2.2.trans (XB.out.trans x4)⟩
            case inr.inr.inl =>
              have z1' : ¬ a < 0 := by omega
              have z2' : ¬ b ≤ a := by omega
              go_wp2_with fail
              refine (first17_any _).mono ?_
              rintro e w4 ⟨rfl, x4⟩
              go_wp2_with fail
              go_ret
              exact ⟨rfl, HW.out.2.2.trans (XB.out.trans x4)⟩
            obtain ⟨a, rfl⟩ := Int.eq_ofNat_of_zero_le z1
            obtain ⟨b, rfl⟩ := Int.eq_ofNat_of_zero_le (by omega : 0 ≤ b)
            have z2' : ¬ (b : Int) ≤ (a : Int) := by omega
            have z3' : ¬ (L.ev.length : Int) ≤ (b : Int) := by omega
            have HAB : Hid (a < b ∧ b < L.ev.length) := Lib.hid (by omega)
            go_wp2_with fail
            refine (head_any _ ve vp V L (KE.out _ XB.out).1 (L.ev.length : Int) (i64_len (KE.out _ XB.out).1.row) ⟨by have := HS.out.1; omega, by have := HS.out.2.1; omega, HS.out.2.2⟩).mono ?_
            rintro r wh ⟨hv, pv, V5, rfl, oh, yh, fh⟩
            have lh := head_in (KE.out _ XB.out).1 oh
            rw [head_all HM.out _ (Int.le_refl _)] at oh fh lh
            have k1 := Sl.cells_eq lh.row
            have k2 := Sl.cells_eq lh.prow
            have t1 := Sl.run_st (P := Try.prog) lh.row
            have t2 := Sl.run_st (P := Try.prog) lh.prow
            have HH := Lib.hid (And.intro oh (And.intro yh (And.intro fh lh)))
            clear oh yh fh lh c0 c1
            go_upto_region 17 with fail
            obtain ⟨wm, hwm⟩ : ∃ wm, wm = wh.alloc (.cells #[hv, pv] 25) := ⟨_, rfl⟩
            obtain ⟨gm, hgm⟩ : ∃ g, g = wh.heap.size := ⟨_, rfl⟩
            have xm : Ext wh wm := by rw [hwm]; exact (Mod.refl _ _).alloc _
            have bm : wm.heap[gm]? = some (.cells #[hv, pv] 25 (0, 0)) := by rw [hwm, hgm]; exact heap_alloc_new _ _
            rw [← hwm, ← hgm]
            have HMB := Lib.hid (And.intro xm (And.intro bm hgm))
            have d0 : wm.cell? ⟨gm, 0, none⟩ = some hv := by simp [World.cell?, bm]
            have d1 : wm.cell? ⟨gm, 1, none⟩ = some pv := by simp [World.cell?, bm]
            clear hwm hgm xm bm t1 t2
            go_upto_region 18 with (at_builtin; go_loud (refine wpList_app IP rfl (.tmp 110) (.tmp 114) rfl ((HH.out.1.prow.ext HMB.out.1).ext (Mod.alloc (Mod.refl _ _) _)) (built_sl (n := 1) (g := wm.heap.size) (e := 48) (cs := #[.int .i64 (a : Int), .int .i64 (b : Int)]) (by simp only [heap_alloc_if, if_true]) rfl (by simp only [maxLen]; omega)) (one2i _ _) (by simp [Act.eval]) (by simp [Act.eval]) (by omega) (by simp only [maxLen]; omega) ?_); intro pv9 w9 ol9 gr9 fr9 nn9; obtain ⟨la9, lc9, hlv9, _⟩ := ol9.sl.shape; subst hlv9; have M9 : Mod (fun q => pv.ownBlock = some q) wm w9 := Mod.grown (Mod.alloc (Mod.refl _ _) _) gr9 (fun q h => .inl h); have z5 := M9.blk HMB.out.2.1 (fun h => (HH.out.1.prow.ext HMB.out.1).apart_obj HMB.out.2.1 (by decide) h); have c9 : w9.cell? ⟨gm, 1, none⟩ = some pv := (by simp [World.cell?, z5]); have f9 : w9.frozen? ⟨gm, 1, none⟩ = false := (by simp [World.frozen?, z5]); have H9 := Lib.hid (And.intro ol9 (And.intro fr9 M9)); clear ol9 gr9 fr9 nn9 M9 z5)
            clear c9 f9 d0 d1
            obtain ⟨wz, hwz⟩ : ∃ wz, wz = w9.setCell ⟨gm, 1, none⟩ (.slice la9 (L.pr.length + 1) lc9) := ⟨_, rfl⟩
            rw [← hwz]
            obtain ⟨pv9, hpv9⟩ : ∃ v, v = Value.slice la9 (L.pr.length + 1) lc9 := ⟨_, rfl⟩
            rw [← hpv9] at hwz
            have HPV := Lib.hid hpv9
            have HZP : Hid (Ext _ wz ∧ LogIn wz hv pv9 V5 (pairL L a b) ∧ LogBox wz gm hv pv9) := Lib.hid (by
              obtain ⟨ol9, fr9, M9⟩ := H9.out
              rw [← hpv9] at ol9
              obtain ⟨P1, P2⟩ := head_push (p := ((a : Int), (b : Int))) HMB.out.2.1 (HH.out.1.ext HMB.out.1) M9 ol9
              rw [← hwz] at P1 P2
              have hsz := HH.out.2.1.size
              refine ⟨((HH.out.2.1.trans HMB.out.1).trans' M9 (fun q hq => .inr (HH.out.2.2.1 _ (.inr (.inl hq))))).trans' (by rw [hwz]; exact Mod.setCell (F := fun q => q = gm) (Mod.refl _ _) (.inl rfl) _) (fun q hq => .inr (by have := HMB.out.2.2; omega)), P2.in_ (fun i hi => HH.out.2.2.2.ev i hi |>.ok) (fun i hi => ?_), ⟨P1⟩⟩
              show I64 (prn (L.pr ++ [((a : Int), (b : Int))]) i).1 ∧ I64 (prn (L.pr ++ [((a : Int), (b : Int))]) i).2
              by_cases e : i < L.pr.length
              · rw [prn_snoc_lt e]; exact HH.out.2.2.2.pok i e
              · obtain rfl : i = L.pr.length := by have h2 : i < (L.pr ++ [((a : Int), (b : Int))]).length := hi; simp at h2; omega
                rw [prn_snoc]
                have h1 := HAB.out
                have h2 := HS.out.1
                constructor <;> (unfold I64; dsimp only; omega))
            have HZ : Hid (Ext _ wz) := Lib.hid HZP.out.1
            have KZ : Hid (∀ w', Ext wz w' → LogIn w' hv pv9 V5 (pairL L a b) ∧ LogBox w' gm hv pv9) := Lib.hid fun w' x => ⟨HZP.out.2.1.ext x, HZP.out.2.2.ext x⟩
            clear hwz hpv9
            have KZF : Hid (∀ w', Ext wz w' → w'.cell? ⟨g0, 0, none⟩ = some ve ∧ w'.cell? ⟨g0, 1, none⟩ = some vp ∧ w'.cell? ⟨gm, 0, none⟩ = some hv ∧ w'.cell? ⟨gm, 1, none⟩ = some pv9) := Lib.hid fun w' x => ⟨(KE.out _ (XB.out.trans (HZ.out.trans x))).2.cells.1, (KE.out _ (XB.out.trans (HZ.out.trans x))).2.cells.2, (KZ.out _ x).2.cells.1, (KZ.out _ x).2.cells.2⟩
            have hpl := pair_cfL HM.out (by have := HS.out.2.1; omega) HAB.out.1 HAB.out.2
            obtain ⟨m1, hm1⟩ : ∃ m, m = (cfL (pairL L a b)).length := ⟨_, rfl⟩
            obtain ⟨m2, hm2⟩ : ∃ m, m = (cfL L).length := ⟨_, rfl⟩
            rw [← hm1, ← hm2] at hpl
            have HM12 := Lib.hid (And.intro hm1 hm2)
            clear z1 z2 z3 z2' z3' hm1 hm2
            refine wp_region_plan [(0, false), (1, true), (2, true), (3, true), (4, true), (5, false), (6, true), (7, true), (8, true), (9, true), (12, true), (10, false), (11, true), (13, false), (14, true), (15, true), (16, true), (17, true)] (fun w' => w'.cell? ⟨g0, 0, none⟩ = some ve ∧ w'.cell? ⟨g0, 1, none⟩ = some vp ∧ w'.cell? ⟨gm, 0, none⟩ = some hv ∧ w'.cell? ⟨gm, 1, none⟩ = some pv9) (by kernel_rfl) (by kernel_rfl) (by kernel_rfl) (fun _ d _ _ _ h => by cases d <;> exact h) (KZF.out _ (Mod.drew (Mod.refl _ _))) ?_
            simp only [planL, getO]
            refine plan_call (fun K hK => ?_)
            go_simp
            go_at_call 13; refine (first17_any _).mono ?_; rintro e v1 ⟨rfl, y8⟩; have U1 : Ext wz v1 := Mod.trans (Mod.drew (Mod.refl _ _)) y8
            refine hK.out _ _ (KZF.out _ U1) ?_
            clear hK K
            (try simp only [Act.put, List.setIfInBounds_toArray, List.set_cons_zero, List.set_cons_succ])
            iterate 4 (refine plan_take (v := ?_) (by rfl) (fun wS hS => ?_) ?_; rotate_left; (focus ((try dsimp only at hS); go_simp; (try with_reducible rfl); done)); (try simp only [Act.put, List.setIfInBounds_toArray, List.set_cons_zero, List.set_cons_succ]))
            refine plan_call (fun K hK => ?_)
            go_simp
            go_at_call 16; refine (conflict_any _ hv pv9 V5 (pairL L a b) (KZ.out _ U1).1 (by have := HS.out.1; show L.ev.length ≤ 64; omega) a b).mono ?_; rintro e v2 ⟨rfl, y8⟩; have U2 : Ext wz v2 := Mod.trans U1 y8; rw [pair_cfB HAB.out.1 HAB.out.2]
            refine hK.out _ _ (KZF.out _ U2) ?_
            clear hK K
            (try simp only [Act.put, List.setIfInBounds_toArray, List.set_cons_zero, List.set_cons_succ])
            iterate 5 (refine plan_take (v := ?_) (by rfl) (fun wS hS => ?_) ?_; rotate_left; (focus ((try dsimp only at hS); go_simp; (try with_reducible rfl); done)); (try simp only [Act.put, List.setIfInBounds_toArray, List.set_cons_zero, List.set_cons_succ]))
            refine plan_call (fun K hK => ?_)
            go_simp
            go_at_call 21; refine (conflicts_any _ hv pv9 V5 (pairL L a b) (KZ.out _ U2).1 (by have := HS.out.1; show L.ev.length ≤ 64; omega)).mono ?_; rintro e v3 ⟨mv, rfl, om, y8, -⟩; have U3 : Ext wz v3 := Mod.trans U2 y8; have lm := om.sl.run_len (P := Try.prog) IP.und 3; clear om
            refine hK.out _ _ (KZF.out _ U3) ?_
            clear hK K
            (try simp only [Act.put, List.setIfInBounds_toArray, List.set_cons_zero, List.set_cons_succ])
            (refine plan_take (v := ?_) (by rfl) (fun wS hS => ?_) ?_; rotate_left; (focus ((try dsimp only at hS); go_simp; (try with_reducible rfl); done)); (try simp only [Act.put, List.setIfInBounds_toArray, List.set_cons_zero, List.set_cons_succ]))
            refine plan_call (fun K hK => ?_)
            go_simp
            go_at_call 21; refine (conflicts_any _ ve vp V L (KE.out _ (XB.out.trans (HZ.out.trans U3))).1 (by have := HS.out.1; omega)).mono ?_; rintro e v4 ⟨cv, rfl, oc, y8, -⟩; have U4 : Ext wz v4 := Mod.trans U3 y8; have lc := oc.sl.run_len (P := Try.prog) IP.und 3; clear oc
            refine hK.out _ _ (KZF.out _ U4) ?_
            clear hK K
            (try simp only [Act.put, List.setIfInBounds_toArray, List.set_cons_zero, List.set_cons_succ])
            iterate 4 (refine plan_take (v := ?_) (by rfl) (fun wS hS => ?_) ?_; rotate_left; (focus ((try dsimp only at hS); go_simp; (try with_reducible rfl); done)); (try simp only [Act.put, List.setIfInBounds_toArray, List.set_cons_zero, List.set_cons_succ]))
            refine plan_nil ?_
            go_wp2_with fail
            go_ret
            exact ⟨ret_bool (by have := HM12.out; rw [← this.1, ← this.2]; exact decide_eq_true hpl), HW.out.2.2.trans (XB.out.trans (HZ.out.trans U4))⟩
end Go.Proofs.Ythmkcgiiakinmaa
