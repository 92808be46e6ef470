/-
  The contract of (*fifo.Queue).Tear. No condition.
-/
import Derived.Test.YtnnciakdeoopaaaFifoFlush
import Derived.Test.YtnnciakdeoopaaaFifoPut
import Derived.Deep.RegionHeld3
import Derived.BigRegion
namespace Go.Proofs.Ytnnciakdeoopaaa
open Go.Ren Go.RowKit
set_option linter.unusedVariables false

/-- A half of the oldest entry is written: the row's cells that turn. -/
theorem queue_tear {w : World} {pq room g n cap : Nat} {V : Nat → Value} {e : Ent} {E : List Ent} (hn : E.length = n) (ht : tearsE e = true) (hin : QueueIn w pq (.slice (some ⟨g, 0, none⟩) (n + 1) cap) V room (e :: E)) :
    QueueIn (((w.setCell ⟨g, 1, none⟩ (.int .i64 (tearEnt e).at_)).setCell ⟨g, 2, none⟩ (sub_ (V 0) (e.b.length / 2) e.b.length 1)).setCell ⟨g, 4, none⟩ (.bool false)) pq (.slice (some ⟨g, 0, none⟩) (n + 1) cap) (updV V 0 (sub_ (V 0) (e.b.length / 2) e.b.length 1)) room (tearEnt e :: E) ∧
      Mod (fun q => q = g) w (((w.setCell ⟨g, 1, none⟩ (.int .i64 (tearEnt e).at_)).setCell ⟨g, 2, none⟩ (sub_ (V 0) (e.b.length / 2) e.b.length 1)).setCell ⟨g, 4, none⟩ (.bool false)) ∧
      ∀ k, fp (sub_ (V 0) (e.b.length / 2) e.b.length 1) k → fp (V 0) k := by
  have hl : (e :: E).length = n + 1 := by simp [hn]
  have hl2 : (tearEnt e :: E).length = n + 1 := by simp [hn]
  have R := hin.row
  rw [hl] at R
  have hgl := R.lt (k := g) (by simp [Value.ownBlock])
  have M : Mod (fun q => q = g) w (((w.setCell ⟨g, 1, none⟩ (.int .i64 (tearEnt e).at_)).setCell ⟨g, 2, none⟩ (sub_ (V 0) (e.b.length / 2) e.b.length 1)).setCell ⟨g, 4, none⟩ (.bool false)) :=
    Mod.setCell (F := fun q => q = g) (Mod.setCell (F := fun q => q = g) (Mod.setCell (F := fun q => q = g) (Mod.refl _ _) (.inl rfl) _) (.inl rfl) _) (.inl rfl) _
  have hb0 := hin.bs 0 (by rw [hl]; omega)
  rw [ent_cons_zero] at hb0
  have hok := hin.ok 0 (by rw [hl]; omega)
  rw [ent_cons_zero] at hok
  have hfp : ∀ k, fp (sub_ (V 0) (e.b.length / 2) e.b.length 1) k → fp (V 0) k := fun k hk => fp_sub (by rw [Sl.slen_eq hb0]; exact Nat.le_refl _) hk
  have far : ∀ i k, i < n + 1 → fp (V i) k → k ≠ pq ∧ g ≠ k := fun i k hi hk => by
    have := hin.far i k (by rw [hl]; omega) hk
    simpa [Value.ownBlock] using this
  refine ⟨⟨?_, ?_, ?_, ?_, ?_, hin.rng, by have := hin.cnt; rw [hl] at this; rw [hl2]; omega⟩, M, hfp⟩
  · exact M.blk hin.box (fun h => R.apart_obj hin.box (by decide) (by simp [Value.ownBlock, h]))
  · rw [hl2]
    have s1 := R.set (by omega) (0 * 5 + 1) (.int .i64 (tearEnt e).at_)
    have s2 := s1.set (by omega) (0 * 5 + 2) (sub_ (V 0) (e.b.length / 2) e.b.length 1)
    have s3 := s2.set (by omega) (0 * 5 + 4) (.bool false)
    rw [flat_set _ (by decide), flat_set _ (by decide), flat_set _ (by decide)] at s3
    simp only [at_own, Nat.zero_mul, Nat.zero_add] at s3
    refine cast ?_ s3
    congr 1
    refine flat_congr fun i j hi hj => ?_
    by_cases e0 : i = 0
    · subst e0
      rw [ent_cons_zero, ent_cons_zero, updV_same]
      match j, hj with
      | 0, _ => rfl
      | 1, _ => rfl
      | 2, _ => rfl
      | 3, _ => rfl
      | 4, _ => rfl
    · obtain ⟨i, rfl⟩ : ∃ k, i = k + 1 := ⟨i - 1, by omega⟩
      simp [ent_cons_succ, updV]
  · intro i hi
    rw [hl2] at hi
    by_cases e0 : i = 0
    · subst e0
      rw [ent_cons_zero, updV_same]
      have hh : e.b.length / 2 + (e.b.length - e.b.length / 2) = e.b.length := by omega
      have hc := cut_bytes hb0 (a := e.b.length / 2) (n := e.b.length - e.b.length / 2) (by omega)
      rw [hh] at hc
      have hcut : cut e.b (e.b.length / 2) (e.b.length - e.b.length / 2) = (tearEnt e).b := by
        simp only [cut, tearEnt]; exact List.take_of_length_le (by simp)
      rw [hcut] at hc
      exact BytesAt.mod hc M (fun k hk h => (far 0 k (by omega) (hfp k hk)).2 h.symm)
    · obtain ⟨i, rfl⟩ : ∃ k, i = k + 1 := ⟨i - 1, by omega⟩
      have hb := hin.bs (i + 1) (by rw [hl]; omega)
      rw [ent_cons_succ] at hb ⊢
      have e1 : updV V 0 (sub_ (V 0) (e.b.length / 2) e.b.length 1) (i + 1) = V (i + 1) := by simp [updV]
      rw [e1]
      exact BytesAt.mod hb M (fun k hk h => (far (i + 1) k (by omega) hk).2 h.symm)
  · intro i k hi hk
    rw [hl2] at hi
    by_cases e0 : i = 0
    · subst e0
      rw [updV_same] at hk
      have := far 0 k (by omega) (hfp k hk)
      simpa [Value.ownBlock] using this
    · have e1 : updV V 0 (sub_ (V 0) (e.b.length / 2) e.b.length 1) i = V i := by simp [updV, e0]
      rw [e1] at hk
      have := far i k (by omega) hk
      simpa [Value.ownBlock] using this
  · intro i hi
    rw [hl2] at hi
    by_cases e0 : i = 0
    · subst e0; rw [ent_cons_zero]; exact tearEnt_ok hok ht
    · obtain ⟨i, rfl⟩ : ∃ k, i = k + 1 := ⟨i - 1, by omega⟩
      have := hin.ok (i + 1) (by rw [hl]; omega)
      rwa [ent_cons_succ] at this ⊢

theorem qtear_nil (w : World) (p q : Value) (room : Nat) (S : Nat → Prop) (h : QueueAt w p room [] S) :
    Calls Try.prog 41 #[p, q] w fun e w' => e = .returned (.bool false) ∧ w = w' := by
  obtain ⟨pq, lv, V, rfl, hin, _⟩ := h.ex
  have c0 := hin.c1
  have l0 := hin.row.sl.run_len (P := Try.prog) IE.und 3
  simp only [List.length_nil, Int.natCast_zero] at l0
  clear hin h
  go_enter Try.func41, Try.ntmps41
  go_wp2
  go_ret
  exact ⟨rfl, rfl⟩

set_option maxRecDepth 100000 in
set_option maxHeartbeats 1600000 in
theorem qtear_cons (w : World) (p q : Value) (room : Nat) (e : Ent) (E : List Ent) (S : Nat → Prop) (h : QueueAt w p room (e :: E) S) (m : List Blk) (T : Nat → Prop) (hm : BlocksAt w q m T) (hd : ∀ k, S k → ¬ T k) :
    Calls Try.prog 41 #[p, q] w fun r w' => r = .returned (.bool (tearsE e)) ∧ ∃ S', QueueAt w' p room (qtear (e :: E)) S' ∧ BlocksAt w' q (qtearM (e :: E) m) T ∧ Mod (fun k => S k ∨ T k) w w' ∧ ∀ k, S' k → S k := by
  have H0 := Lib.hid (And.intro h hm)
  obtain ⟨pq, lv, V, rfl, hin, hS⟩ := h.ex
  obtain ⟨n, hn⟩ : ∃ n, E.length = n := ⟨_, rfl⟩
  have hl : (e :: E).length = n + 1 := by simp [hn]
  obtain ⟨g, cap, rfl, hc1, hc2⟩ := hin.row_some (by rw [hl]; omega)
  rw [hl] at hin hc1 hS
  obtain ⟨c1, c2, c3, c4, c5⟩ := hin.cells (i := 0) (by rw [hl]; omega)
  rw [ent_cons_zero] at c1 c2 c4 c5
  simp only [Nat.zero_mul, at_own, Nat.zero_add] at c1 c2 c3 c4 c5
  have hb := hin.bs 0 (by rw [hl]; omega)
  have hok := hin.ok 0 (by rw [hl]; omega)
  rw [ent_cons_zero] at hb hok
  have c0 := hin.c1
  have lb := Sl.run_len (P := Try.prog) hb IB.und 3
  have hcm : cap ≤ 9223372036854775807 := by simpa only [maxLen] using hc2
  have hby := hok.by_
  have hlb := hok.len
  have hat := hok.at_
  obtain ⟨V0, hV0⟩ : ∃ x, x = V 0 := ⟨_, rfl⟩
  rw [← hV0] at c3 lb
  have HV := Lib.hid hV0
  by_cases ht : tearsE e = true
  case neg =>
    have e1 : tearsE e = false := by simpa using ht
    have e2 : qtear (e :: E) = e :: E := by simp [qtear, e1]
    have e3 : qtearM (e :: E) m = m := by simp [qtearM, e1]
    rw [e1, e2, e3]
    clear e1 e2 e3 h hm hin hS hb hok hV0 hn
    by_cases htt : e.tears = true
    · have hlt : ¬ (2 ≤ e.b.length) := fun h => ht (by simp [tearsE, htt, h])
      have hlt' : (e.b.length : Int) < 2 := by omega
      rw [htt] at c5
      clear ht htt hl
      go_enter Try.func41, Try.ntmps41
      go_wp2
      go_ret
      exact ⟨rfl, S, H0.out.1, H0.out.2, Mod.refl _ _, fun _ h => h⟩
    · have htf : e.tears = false := by simpa using htt
      rw [htf] at c5
      clear ht htt htf hl
      go_enter Try.func41, Try.ntmps41
      go_wp2
      go_ret
      exact ⟨rfl, S, H0.out.1, H0.out.2, Mod.refl _ _, fun _ h => h⟩
  case pos =>
    have e2 : qtear (e :: E) = tearEnt e :: E := by simp [qtear, ht]
    have e3 : qtearM (e :: E) m = bwrite m e.blk e.at_ (e.b.take (e.b.length / 2)) e.by_ := by simp [qtearM, ht]
    rw [ht, e2, e3]
    have htt : e.tears = true := by simp [tearsE] at ht; exact ht.1
    have hlt : 2 ≤ e.b.length := by simp [tearsE] at ht; exact ht.2
    have hlt' : ¬ (e.b.length : Int) < 2 := by omega
    rw [htt] at c5
    have hq : ((e.b.length / 2 : Nat) : Int) = (e.b.length : Int) / 2 := by omega
    have s1 := Sl.run_sub_hi (P := Try.prog) hb IB.und IB.size .i64 (e.b.length / 2) (by omega)
    have s2 := Sl.run_sub_lo (P := Try.prog) hb IB.und IB.size .i64 (e.b.length / 2) (by omega)
    rw [hq, ← hV0] at s1 s2
    have hb1 := cut_bytes hb (a := 0) (n := e.b.length / 2) (by omega)
    rw [Nat.zero_add, show cut e.b 0 (e.b.length / 2) = e.b.take (e.b.length / 2) by simp [cut]] at hb1
    have lt1 : ((e.b.take (e.b.length / 2)).length) ≤ 8 := by simp; omega
    have hsum : IntKind.i64.wrap (e.at_ + (e.b.length : Int) / 2) = e.at_ + (e.b.length : Int) / 2 := IntWalk.i64_in _ (by omega)
    have hat' : e.at_ + (e.b.length : Int) / 2 = (tearEnt e).at_ := by simp only [tearEnt]; omega
    have key : ∀ w', Mod T w w' → (w'.cell? ⟨g, 0, none⟩ = some (.int .i64 e.blk) ∧ w'.cell? ⟨g, 1, none⟩ = some (.int .i64 e.at_) ∧ w'.cell? ⟨g, 2, none⟩ = some V0 ∧ w'.cell? ⟨g, 3, none⟩ = some (.int .i64 e.by_)) := fun w' M => by
      have hg : ¬ T g := hd g ((hS g).2 (.inr (.inl (by simp [Value.ownBlock]))))
      exact ⟨M.cell c1 hg, M.cell c2 hg, M.cell c3 hg, M.cell c4 hg⟩
    have KE := Lib.hid key
    have HQ := Lib.hid (And.intro hin (And.intro hS (And.intro hm (And.intro hd (And.intro hb1 (And.intro hn (And.intro hl (And.intro ht (And.intro hat' hb)))))))))
    clear e2 e3 htt h hin hS hm hd hb hn hl hok ht hV0 hq hb1 hat' key
    go_enter Try.func41, Try.ntmps41
    go_upto_region 5 with fail
    clear hsum
    go_region_held3 (fun w' => w'.cell? ⟨g, 0, none⟩ = some (.int .i64 e.blk) ∧ w'.cell? ⟨g, 1, none⟩ = some (.int .i64 e.at_) ∧ w'.cell? ⟨g, 2, none⟩ = some V0 ∧ w'.cell? ⟨g, 3, none⟩ = some (.int .i64 e.by_)) (first | exact KE.out _ M1 | exact KE.out _ (Mod.drew (Mod.refl _ _)))
      (first | (go_at_call 21; refine (write_any _ _ _ _ (HQ.out.2.2.1.ext (Mod.drew (Mod.refl _ _))) _ _ _ (e.b.take (e.b.length / 2)) (by rw [HV.out]; exact HQ.out.2.2.2.2.1.ext (Mod.drew (Mod.refl _ _))) (by omega) _ (show I64 e.by_ from ⟨by omega, by omega⟩)).mono ?_; rintro r w1 ⟨rfl, B1, m1⟩; have M1 : Mod T w w1 := (Mod.drew (Mod.refl _ _)).trans m1))
    have hin1 := HQ.out.1.mod M1 (fun k hk => HQ.out.2.2.2.1 k ((HQ.out.2.1 k).2 (by rw [← HQ.out.2.2.2.2.2.2.1]; exact hk)))
    obtain ⟨d1, d2, d3, d4, d5⟩ := hin1.cells (i := 0) (by rw [HQ.out.2.2.2.2.2.2.1]; omega)
    rw [ent_cons_zero] at d1 d2 d4 d5
    simp only [Nat.zero_mul, at_own, Nat.zero_add] at d1 d2 d3 d4 d5
    have hfz : ∀ j, w1.frozen? ⟨g, j, none⟩ = false := fun j => by
      have h := hin1.row.frozen j (by rw [HQ.out.2.2.2.2.2.2.1]; omega)
      rwa [at_own] at h
    have f1 := hfz 1
    have f2 := hfz 2
    have f4 := hfz 4
    have hsum : IntKind.i64.wrap (e.at_ + (e.b.length : Int) / 2) = e.at_ + (e.b.length : Int) / 2 := IntWalk.i64_in _ (by omega)
    obtain ⟨la, lc, hsub, _⟩ := (Sl.sub (sz := 1) HQ.out.2.2.2.2.2.2.2.2.2 (e.b.length / 2) e.b.length (by omega) (Nat.le_refl _)).shape
    rw [← HV.out] at hsub d3
    rw [hsub] at s2
    have H1 := Lib.hid (And.intro hin1 (And.intro B1 (And.intro M1 hsub)))
    clear hin1 B1 M1 hsub m1 d1 d4 hfz s1 lb
    go_wp2_with fail
    go_region
    go_wp2_with fail
    go_ret
    obtain ⟨hin1, B1, M1, hsub⟩ := H1.out
    obtain ⟨hin, hS, hm, hd, hb1, hn, hl, ht, hat', hb⟩ := HQ.out
    rw [← hsub, HV.out]
    simp only [hat']
    obtain ⟨P1, P2, P3⟩ := queue_tear hn ht hin1
    have hg : S g := (hS g).2 (.inr (.inl (by simp [Value.ownBlock])))
    refine ⟨rfl, QueueFp pq (.slice (some ⟨g, 0, none⟩) (n + 1) cap) (updV V 0 (sub_ (V 0) (e.b.length / 2) e.b.length 1)) (tearEnt e :: E).length, ⟨pq, _, _, rfl, P1.mod (Mod.drew (Mod.refl NoF _)) (fun _ _ h => h), fun q => Iff.rfl⟩, (B1.mod P2 (fun k hk h => ?_)).ext (Mod.drew (Mod.refl _ _)), ((M1.weak (fun k h => .inl (.inr h))).trans' P2 (fun k h => .inl (.inl (by rw [h]; exact hg)))).drew, fun k hk => ?_⟩
    · subst h; exact hd _ hg hk
    · rcases hk with rfl | hk | ⟨i, hi, hk⟩
      · exact (hS _).2 (.inl rfl)
      · exact (hS _).2 (.inr (.inl hk))
      · by_cases h0 : i = 0
        · subst h0
          rw [updV_same] at hk
          exact (hS _).2 (.inr (.inr ⟨0, by omega, P3 k hk⟩))
        · have e1 : updV V 0 (sub_ (V 0) (e.b.length / 2) e.b.length 1) i = V i := by simp [updV, h0]
          rw [e1] at hk
          exact (hS _).2 (.inr (.inr ⟨i, by simp [hn] at hi; omega, hk⟩))

theorem qtear_any (w : World) (p q : Value) (room : Nat) (E : List Ent) (S : Nat → Prop) (h : QueueAt w p room E S) (m : List Blk) (T : Nat → Prop) (hm : BlocksAt w q m T) (hd : ∀ k, S k → ¬ T k) :
    Calls Try.prog 41 #[p, q] w fun r w' => r = .returned (.bool (qtears E)) ∧ ∃ S', QueueAt w' p room (qtear E) S' ∧ BlocksAt w' q (qtearM E m) T ∧ Mod (fun k => S k ∨ T k) w w' ∧ ∀ k, S' k → S k := by
  cases E with
  | nil => exact (qtear_nil w p q room S h).mono fun r w' ⟨h1, h2⟩ => by subst h2; exact ⟨h1, S, h, hm, Mod.refl _ _, fun _ h => h⟩
  | cons e E => exact qtear_cons w p q room e E S h m T hm hd
end Go.Proofs.Ytnnciakdeoopaaa
