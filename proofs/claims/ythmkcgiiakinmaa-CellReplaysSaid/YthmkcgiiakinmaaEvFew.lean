/-
  The contract of renlaw14.Few: where it says true, a log is small. No condition.
-/
import Derived.Test.YthmkcgiiakinmaaEvHead
namespace Go.Ren
open Go.RowKit
theorem run_min {P : Program} (a b : Nat) (ts : Array TypeId) (ty : TypeId) (w : World) : (Builtin.min_ ts ty #[.int .i64 (a : Int), .int .i64 (b : Int)]).run P w = .ok (.int .i64 ((min a b : Nat) : Int)) w := by
  by_cases h : a ≤ b
  · have h2 : ¬ ((b : Int) < (a : Int)) := by omega
    have e : min a b = a := by omega
    rw [e]
    simp [Builtin.min_, Builtin.min2, h2]
  · have h2 : (b : Int) < (a : Int) := by omega
    have e : min a b = b := by omega
    rw [e]
    simp [Builtin.min_, Builtin.min2, h2]

def few1 (e : Ev) : Nat := min e.rd.length 20001 + min e.wr.length 20001 + min e.fr.length 20001
def fewN (L : List Ev) (k : Nat) : Nat := ((L.take k).map few1).sum
theorem fewN_succ {L : List Ev} {k : Nat} (h : k < L.length) : fewN L (k + 1) = fewN L k + few1 (evn L k) := by
  unfold fewN; rw [List.take_succ_eq_append_getElem h, List.map_append, List.sum_append, evn_eq h]; simp
theorem fewN_le (L : List Ev) (k : Nat) : fewN L k ≤ 60003 * k := by
  induction k with
  | zero => simp [fewN]
  | succ k ih =>
    by_cases h : k < L.length
    · rw [fewN_succ h]; unfold few1; omega
    · have : fewN L (k + 1) = fewN L k := by unfold fewN; rw [List.take_of_length_le (by omega), List.take_of_length_le (by omega)]
      rw [this]; omega
theorem fewN_mono {L : List Ev} {j k : Nat} (h : j ≤ k) (hk : k ≤ L.length) : fewN L j ≤ fewN L k := by
  induction k with
  | zero =>
    obtain rfl : j = 0 := by omega
    exact Nat.le_refl _
  | succ k ih =>
    by_cases e : j = k + 1
    · rw [e]; exact Nat.le_refl _
    · rw [fewN_succ (by omega)]; have := ih (by omega) (by omega); omega
theorem fewN_each {L : List Ev} (h : fewN L L.length ≤ 20000) {i : Nat} (hi : i < L.length) : (evn L i).rd.length ≤ 20000 ∧ (evn L i).wr.length ≤ 20000 ∧ (evn L i).fr.length ≤ 20000 := by
  have h1 := fewN_mono (L := L) (j := i + 1) (k := L.length) (by omega) (Nat.le_refl _)
  rw [fewN_succ hi] at h1
  unfold few1 at h1
  omega
end Go.Ren
namespace Go.Proofs.Ythmkcgiiakinmaa
open Go.Ren Go.RowKit
set_option linter.unusedVariables false

def FewPost (L : Lg) (m : Nat) (w : World) (e : Ending) (w' : World) : Prop := (∃ r, e = .returned (.bool r) ∧ (r = true → L.ev.length ≤ m ∧ L.pr.length ≤ m ∧ ∀ i, i < L.ev.length → (evn L.ev i).rd.length ≤ 20000 ∧ (evn L.ev i).wr.length ≤ 20000 ∧ (evn L.ev i).fr.length ≤ 20000)) ∧ Ext w w'
set_option maxRecDepth 100000 in
set_option maxHeartbeats 1600000 in
theorem few_any (w : World) (ve vp : Value) (V : Nat → Vs) (L : Lg) (h : LogIn w ve vp V L) (m : Nat) (hm : m ≤ 1000) :
    Calls Try.prog 14 #[.agg #[ve, vp], .int .i64 (m : Int)] w (FewPost L m w) := by
  have q1 := Sl.cells_eq h.row
  have q2 := Sl.cells_eq h.prow
  have s1 := Sl.run_st (P := Try.prog) h.row
  have s2 := Sl.run_st (P := Try.prog) h.prow
  have l1 := h.row.run_len (P := Try.prog) IEv.und 3
  have l2 := h.prow.run_len (P := Try.prog) IP.und 3
  have HI := Lib.hid (h.row.run_idx (P := Try.prog) IEv.und IEv.size .i64)
  obtain ⟨w0, hw0⟩ : ∃ w0, w0 = w.alloc (.cells #[ve, vp] 25) := ⟨_, rfl⟩
  obtain ⟨g0, hg0⟩ : ∃ g, g = w.heap.size := ⟨_, rfl⟩
  have x0 : Ext w w0 := by rw [hw0]; exact (Mod.refl _ _).alloc _
  have b0 : LogBox w0 g0 ve vp := ⟨by rw [hw0, hg0]; exact heap_alloc_new _ _⟩
  have HW := Lib.hid (And.intro hw0 (And.intro hg0 (And.intro x0 (And.intro b0 (h.ext x0)))))
  have hml : (L.ev.length : Int) ≤ 9223372036854775807 := by obtain ⟨_, c, _, z1, z2, _⟩ := h.row.shape; simp only [maxLen] at z2; omega
  clear hw0 hg0 x0 b0 h
  go_enter Try.func14, Try.ntmps14
  go_upto_region 1 with fail
  rw [← HW.out.1, ← HW.out.2.1]
  clear s1 s2
  go_wp2_with fail
  go_loopw [5, 6] (fun s5 s6 wr => ∃ k : Nat, k ≤ L.ev.length ∧ k ≤ m + 1 ∧ s6 = .int .i64 (k : Int) ∧ s5 = .int .i64 (fewN L.ev k : Int) ∧ Ext w0 wr) (fun _ i _ => L.ev.length - (intOf i).toNat)
  case atStart => exact ⟨0, Nat.zero_le _, by omega, rfl, rfl, Mod.refl _ _⟩
  case round =>
    obtain ⟨k, hk, hkm, rfl, rfl, X⟩ := hrel
    obtain ⟨d0, d1⟩ := (HW.out.2.2.2.1.ext X).cells
    by_cases hlt : k < L.ev.length
    · have hlt' : (k : Int) < (L.ev.length : Int) := by omega
      by_cases hkm2 : k ≤ m
      · have hkm' : (k : Int) ≤ (m : Int) := by omega
        have i0 := HI.out k hlt
        obtain ⟨-, -, -, -, -, -, -, c7, c8, c9⟩ := (HW.out.2.2.2.2.ext X).cells hlt
        have hev := (HW.out.2.2.2.2.ext X).ev k hlt
        have hsum := fewN_succ hlt
        have hle := fewN_le L.ev k
        obtain ⟨v, hv⟩ : ∃ v, v = V k := ⟨_, rfl⟩
        obtain ⟨A, hA⟩ : ∃ A, A = at_ ve (k * 10) := ⟨_, rfl⟩
        rw [← hv] at c7 c8 c9 hev
        rw [← hA] at i0 c7 c8 c9
        have n1 := Sl.run_len (P := Try.prog) hev.rd IB.und 3
        have n2 := Sl.run_len (P := Try.prog) hev.wr IB.und 3
        have n3 := hev.fr.sl.run_len (P := Try.prog) II.und 3
        obtain ⟨a1, ha1⟩ : ∃ a, a = (evn L.ev k).rd.length := ⟨_, rfl⟩
        obtain ⟨a2, ha2⟩ : ∃ a, a = (evn L.ev k).wr.length := ⟨_, rfl⟩
        obtain ⟨a3, ha3⟩ : ∃ a, a = (evn L.ev k).fr.length := ⟨_, rfl⟩
        unfold few1 at hsum
        rw [← ha1, ← ha2, ← ha3] at hsum
        rw [← ha1] at n1
        rw [← ha2] at n2
        rw [← ha3] at n3
        obtain ⟨F, hF⟩ : ∃ F, F = fewN L.ev k := ⟨_, rfl⟩
        rw [← hF] at hsum hle ⊢
        have m1 := fun (ty : TypeId) (w : World) => run_min (P := Try.prog) a1 20001 #[3, 3] ty w
        have m2 := fun (ty : TypeId) (w : World) => run_min (P := Try.prog) a2 20001 #[3, 3] ty w
        have m3 := fun (ty : TypeId) (w : World) => run_min (P := Try.prog) a3 20001 #[3, 3] ty w
        have z1 : min a1 20001 ≤ 20001 := by omega
        have z2 : min a2 20001 ≤ 20001 := by omega
        have z3 : min a3 20001 ≤ 20001 := by omega
        obtain ⟨b1, hb1⟩ : ∃ b, b = min a1 20001 := ⟨_, rfl⟩
        obtain ⟨b2, hb2⟩ : ∃ b, b = min a2 20001 := ⟨_, rfl⟩
        obtain ⟨b3, hb3⟩ : ∃ b, b = min a3 20001 := ⟨_, rfl⟩
        rw [← hb1] at m1 z1 hsum
        rw [← hb2] at m2 z2 hsum
        rw [← hb3] at m3 z3 hsum
        have y1 : IntKind.i64.wrap ((F : Int) + (b1 : Int)) = F + b1 := IntWalk.i64_in _ (by omega)
        have y2 : IntKind.i64.wrap ((F : Int) + (b1 : Int) + (b2 : Int)) = F + b1 + b2 := IntWalk.i64_in _ (by omega)
        have y3 : IntKind.i64.wrap ((F : Int) + (b1 : Int) + (b2 : Int) + (b3 : Int)) = F + b1 + b2 + b3 := IntWalk.i64_in _ (by omega)
        have l0 : ((20001 : Nat) : Int) = 20001 := rfl
        rw [l0] at m1 m2 m3
        have KE : Hid (∀ w', Ext wr w' → (w'.cell? ⟨g0, 0, none⟩ = some ve ∧ w'.cell? ⟨A.block, A.off + 7, none⟩ = some v.r ∧ w'.cell? ⟨A.block, A.off + 8, none⟩ = some v.w ∧ w'.cell? ⟨A.block, A.off + 9, none⟩ = some v.f)) := Lib.hid fun w' x => ⟨x.cell d0, x.cell c7, x.cell c8, x.cell c9⟩
        have HS := Lib.hid (And.intro hsum X)
        clear hsum hle hev hv hA ha1 ha2 ha3 hF hb1 hb2 hb3 X l0
        go_upto_region 5 with fail
        refine wp_region_plan [(0, true), (1, true), (2, true), (3, true), (4, true), (5, true), (6, true), (7, true), (8, true), (9, true), (10, true), (11, true), (12, true), (13, true), (14, true), (15, true), (16, true), (17, true), (18, true), (19, true), (20, true), (21, true), (22, true), (23, true), (24, true), (25, true), (26, true), (27, true), (28, true)] (fun w' => w'.cell? ⟨g0, 0, none⟩ = some ve ∧ w'.cell? ⟨A.block, A.off + 7, none⟩ = some v.r ∧ w'.cell? ⟨A.block, A.off + 8, none⟩ = some v.w ∧ w'.cell? ⟨A.block, A.off + 9, none⟩ = some v.f) (by kernel_rfl) (by kernel_rfl) (by kernel_rfl) (fun _ d _ _ _ h => by cases d <;> exact h) (KE.out _ (Mod.drew (Mod.refl _ _))) ?_
        simp only [planL, getO]
        iterate 29 (refine plan_take (v := ?_) (by rfl) (fun wS hS => ?_) ?_; rotate_left; (focus ((try dsimp only at hS); go_simp; (try with_reducible rfl); done)); (try simp only [Act.put, List.setIfInBounds_toArray, List.set_cons_zero, List.set_cons_succ]))
        refine plan_nil ?_
        go_wp2_with fail
        go_roundw
        case rel => exact ⟨k + 1, by omega, by omega, by go_num, by rw [HS.out.1]; congr 1; omega, HS.out.2.drew⟩
        case measure => simp [intOf]; omega
      · have hkm' : ¬ (k : Int) ≤ (m : Int) := by omega
        have hlm : ¬ (L.ev.length : Int) ≤ (m : Int) := by omega
        have XX := Lib.hid (HW.out.2.2.1.trans X)
        clear X
        go_wp2_with fail
        go_ret
        exact ⟨⟨_, rfl, fun e => by cases e⟩, XX.out⟩
    · have hlt' : ¬ (k : Int) < (L.ev.length : Int) := by omega
      obtain rfl : k = L.ev.length := by omega
      have XX := Lib.hid (HW.out.2.2.1.trans X)
      have HE := Lib.hid (fun h => fun i hi => fewN_each (L := L.ev) h (i := i) hi)
      clear X
      by_cases g1 : L.ev.length ≤ m ∧ L.pr.length ≤ m ∧ fewN L.ev L.ev.length ≤ 20000
      · obtain ⟨g1, g2, g3⟩ := g1
        have g1' : (L.ev.length : Int) ≤ (m : Int) := by omega
        have g2' : (L.pr.length : Int) ≤ (m : Int) := by omega
        have g3' : (fewN L.ev L.ev.length : Int) ≤ 20000 := by omega
        go_wp2_with fail
        go_ret
        exact ⟨⟨_, rfl, fun _ => ⟨g1, g2, HE.out g3⟩⟩, XX.out⟩
      · rcases (by omega : m < L.ev.length ∨ (L.ev.length ≤ m ∧ m < L.pr.length) ∨ (L.ev.length ≤ m ∧ L.pr.length ≤ m ∧ 20000 < fewN L.ev L.ev.length)) with g | ⟨g, g'⟩ | ⟨g, g', g''⟩
        case' inl => have y1 : ¬ (L.ev.length : Int) ≤ (m : Int) := by omega
        case' inr.inl =>
          have y1 : (L.ev.length : Int) ≤ (m : Int) := by omega
          have y2 : ¬ (L.pr.length : Int) ≤ (m : Int) := by omega
        case' inr.inr =>
          have y1 : (L.ev.length : Int) ≤ (m : Int) := by omega
          have y2 : (L.pr.length : Int) ≤ (m : Int) := by omega
          have y3 : ¬ (fewN L.ev L.ev.length : Int) ≤ 20000 := by omega
        all_goals
          clear g1
          go_wp2_with fail
          go_ret
          exact ⟨⟨_, rfl, fun e => by cases e⟩, XX.out⟩
end Go.Proofs.Ythmkcgiiakinmaa
