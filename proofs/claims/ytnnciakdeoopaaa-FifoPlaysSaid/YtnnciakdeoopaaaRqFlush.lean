/-
  The contracts of (*renref18.Queue).Flush, Drain. No condition.
-/
import Derived.Test.YtnnciakdeoopaaaRqAt
import Derived.Test.YtnnciakdeoopaaaRefWrite
import Derived.Deep.LoopGhost
namespace Go.Proofs.Ytnnciakdeoopaaa
open Go.Ren Go.RowKit
set_option linter.unusedVariables false

/-- The oldest entry is taken away: a row of the call's own. -/
theorem rq_pop {w w3 : World} {pq room : Nat} {lv lv' : Value} {V : Nat → Value} {e : Ent} {E : List Ent} (hin : RqIn w pq lv V room (e :: E)) (x : Ext w w3)
    (o : Own w3 110 5 lv' E.length (flat 5 E.length (fun i j => ecell (ent E i) (V (i + 1)) j))) (fr : ∀ k, lv'.ownBlock = some k → w.heap.size ≤ k) :
    RqIn (w3.setCell ⟨pq, 1, none⟩ lv') pq lv' (fun i => V (i + 1)) room E ∧ Mod (RqFp pq lv V (e :: E).length) w (w3.setCell ⟨pq, 1, none⟩ lv') ∧ ∀ k, RqFp pq lv' (fun i => V (i + 1)) E.length k → RqFp pq lv V (e :: E).length k ∨ w.heap.size ≤ k := by
  have hl : (e :: E).length = E.length + 1 := by simp
  have C0 := x.blk hin.box
  have Ms : Mod (fun q => q = pq) w3 (w3.setCell ⟨pq, 1, none⟩ lv') := Mod.setCell (F := fun q => q = pq) (Mod.refl _ _) (.inl rfl) _
  have far : ∀ i k, i < E.length → fp (V (i + 1)) k → k ≠ pq ∧ k < w.heap.size := fun i k hi hk =>
    ⟨(hin.far (i + 1) k (by rw [hl]; omega) hk).1, Sl.lt (hin.bs (i + 1) (by rw [hl]; omega)) (by decide) hk⟩
  refine ⟨⟨?_, ?_, ?_, ?_, ?_, hin.rng, by have := hin.cnt; rw [hl] at this; omega⟩, (x.mod _).trans' Ms (fun i hi => .inl (.inl hi)), ?_⟩
  · simp [World.setCell, Array.getElem?_modify, C0]
  · exact o.mod Ms (fun k hk h => by subst h; exact o.apart_obj C0 (by decide) hk)
  · intro i hi
    have hb := hin.bs (i + 1) (by rw [hl]; omega)
    rw [ent_cons_succ] at hb
    exact BytesAt.mod (BytesAt.ext hb x) Ms (fun k hk => (far i k hi hk).1)
  · intro i k hi hk
    refine ⟨(far i k hi hk).1, fun h => ?_⟩
    have h1 := fr k h
    have h2 := (far i k hi hk).2
    omega
  · intro i hi
    have := hin.ok (i + 1) (by rw [hl]; omega)
    rwa [ent_cons_succ] at this
  · intro k hk
    rcases hk with rfl | hk | ⟨i, hi, hk⟩
    · exact .inl (.inl rfl)
    · exact .inr (fr k hk)
    · exact .inl (.inr (.inr ⟨i + 1, by rw [hl]; omega, hk⟩))
theorem rflush_nil (w : World) (p q : Value) (room : Nat) (S : Nat → Prop) (h : RqAt w p room [] S) :
    Calls Try.prog 66 #[p, q] w fun e w' => e = .returned (.bool false) ∧ w = w' := by
  obtain ⟨pq, lv, V, rfl, hin, _⟩ := h.ex
  have c0 := hin.c1
  have l0 := hin.row.sl.run_len (P := Try.prog) IRQ.und 3
  simp only [List.length_nil, Int.natCast_zero] at l0
  clear hin h
  go_enter Try.func66, Try.ntmps66
  go_wp2
  go_ret
  exact ⟨rfl, rfl⟩
theorem own_empty5 (w : World) (e : TypeId) : Own (w.alloc (.cells #[] e)) e 5 (.slice (some ⟨w.heap.size, 0, none⟩) 0 0) 0 [] := Own.made w #[] e 5 0 (by simp [maxLen]) rfl
set_option maxRecDepth 100000 in
set_option maxHeartbeats 1600000 in
theorem rflush_cons (w : World) (p q : Value) (room : Nat) (e : Ent) (E : List Ent) (S : Nat → Prop) (h : RqAt w p room (e :: E) S) (m : List Blk) (T : Nat → Prop) (hm : RefAt w q m T) (hd : ∀ k, S k → ¬ T k) :
    Calls Try.prog 66 #[p, q] w fun r w' => r = .returned (.bool true) ∧ ∃ S', RqAt w' p room E S' ∧ RefAt w' q (qflushM (e :: E) m) T ∧ Mod (fun k => S k ∨ T k) w w' ∧ ∀ k, S' k → S k ∨ w.heap.size ≤ k := by
  obtain ⟨pq, lv, V, rfl, hin, hS⟩ := h.ex
  have hl : (e :: E).length = E.length + 1 := by simp
  obtain ⟨g, cap, rfl, hc1, hc2⟩ := hin.row_some (by rw [hl]; omega)
  obtain ⟨c1, c2, c3, c4, c5⟩ := hin.cells (i := 0) (by rw [hl]; omega)
  rw [ent_cons_zero] at c1 c2 c4 c5
  simp only [Nat.zero_mul, at_own, Nat.zero_add] at c1 c2 c3 c4 c5
  have hb := hin.bs 0 (by rw [hl]; omega)
  have hok := hin.ok 0 (by rw [hl]; omega)
  rw [ent_cons_zero] at hb hok
  have c0 := hin.c1
  have l0 := hin.row.sl.run_len (P := Try.prog) IRQ.und 3
  have i0 := hin.row.sl.run_idx (P := Try.prog) IRQ.und IRQ.size .i64 0 (by rw [hl]; omega)
  obtain ⟨U, hU⟩ : ∃ U, U = sub_ (.slice (some ⟨g, 0, none⟩) (e :: E).length cap) 1 (e :: E).length 5 := ⟨_, rfl⟩
  have s1 : ∀ w', (Instr.sliceAt 75 (.slice (some ⟨g, 0, none⟩) (e :: E).length cap) (some (.int .i64 1)) none none).run Try.prog w' = .ok U w' := fun w' => by
    rw [hU]; exact hin.row.sl.run_sub_lo (P := Try.prog) IRQ.und IRQ.size .i64 1 (by rw [hl]; omega) w'
  have hsu : Sl w U 5 E.length (flat 5 E.length (fun i j => ecell (ent E i) (V (i + 1)) j)) := by
    have h1 := hin.row.sl.sub 1 (e :: E).length (by rw [hl]; omega) (Nat.le_refl _)
    rw [← hU] at h1
    have e1 : (e :: E).length - 1 = E.length := by rw [hl]; omega
    rw [e1, Nat.one_mul, hl, flat_drop 5 E.length _ (by decide), List.take_of_length_le (by rw [flat_len]; exact Nat.le_refl _)] at h1
    simpa only [ent_cons_succ] using h1
  have hone : ∀ u ∈ flat 5 E.length (fun i j => ecell (ent E i) (V (i + 1)) j), u.oneCell' = true := one_flat fun i j hi _ => ecell_one _ _ _ (Sl.one (hin.bs (i + 1) (by rw [hl]; omega)))
  have hrm := hin.rng
  have hcnt := hin.cnt
  rw [hl] at l0 i0 s1 hcnt c0
  have k1 := Sl.cells_eq hb
  have t1 := Sl.run_st (P := Try.prog) hb
  have hby := hok.by_
  have hlb := hok.len
  have hne : (((E.length + 1 : Nat) : Int) == 0) = false := by simp; omega
  simp only [Nat.zero_mul, at_own] at i0
  have HQ := Lib.hid (And.intro hin (And.intro hS (And.intro hm (And.intro hd (And.intro hb (And.intro hsu (And.intro hone hl)))))))
  obtain ⟨V0, hV0⟩ : ∃ x, x = V 0 := ⟨_, rfl⟩
  rw [← hV0] at c3 k1 t1
  have HV := Lib.hid hV0
  have HUU := Lib.hid hU
  clear h hin hS hm hd hb hl hok hV0 hU hsu hone
  go_enter Try.func66, Try.ntmps66
  go_wp2_with fail
  obtain ⟨w0, hw0⟩ : ∃ w0, w0 = w.alloc (.cells #[.int .i64 e.blk, .int .i64 e.at_, V0, .int .i64 e.by_, .bool e.tears] 110) := ⟨_, rfl⟩
  have x0 : Ext w w0 := by rw [hw0]; exact (Mod.refl _ _).alloc _
  rw [← hw0]
  clear hw0
  obtain ⟨hin, hS, hm, hd, hb, hsu, hone, hl⟩ := HQ.out
  refine (rwrite_any _ _ _ _ (hm.ext x0) _ _ _ e.b (by rw [HV.out]; exact hb.ext x0) (fun k hk => by rw [HV.out] at hk; exact hd k ((hS k).2 (.inr (.inr ⟨0, by rw [hl]; omega, hk⟩)))) (by omega) _ (show I64 e.by_ from ⟨by omega, by omega⟩)).mono ?_
  rintro r w1 ⟨rfl, B1, m1⟩
  have M1 : Mod T w w1 := (x0.mod T).trans m1
  have hin1 := hin.mod M1 (fun k hk => hd k ((hS k).2 hk))
  have d0 := hin1.c1
  rw [hl] at d0
  have hsu1 : Sl w1 U 5 E.length (flat 5 E.length (fun i j => ecell (ent E i) (V (i + 1)) j)) := hsu.mod (by decide) M1 (fun k hk => by
    rw [HUU.out] at hk
    have h1 : fp (.slice (some ⟨g, 0, none⟩) (e :: E).length cap) k := fp_sub (by simp [slen]) hk
    exact hd k ((hS k).2 (.inr (.inl (fp_ob h1)))))
  have HB := Lib.hid (And.intro B1 (And.intro M1 (And.intro hin1 hsu1)))
  have hbx := hin1.box
  have HBX := Lib.hid hbx
  have d1 : (w1.alloc (.cells #[] 110)).cell? ⟨pq, 1, none⟩ = some (.slice (some ⟨g, 0, none⟩) (E.length + 1) cap) := Ext.cell ((Mod.refl _ _).alloc _) d0
  clear hin hS hm hd hb hl hsu hone x0 m1 hin1 B1 M1 c0 c1 c2 c3 c4 c5 k1 t1 hsu1 hbx
  go_wp2_with (at_builtin; go_loud (refine wpList_app IRQ rfl (.tmp 29) (.tmp 34) rfl (own_empty5 _ _) (HB.out.2.2.2.ext (by decide) (Mod.alloc (Mod.refl _ _) _)) HQ.out.2.2.2.2.2.2.1 (by simp [Act.eval]) (by simp [Act.eval]) (by omega) (by simp only [maxLen]; omega) ?_); intro lv9 w9 ol9 gr9 fr9 nn9; (obtain ⟨la9, lc9, hlv9, _⟩ := ol9.sl.shape); subst hlv9; (have x9 : Ext w1 w9 := (Mod.alloc (Mod.refl _ _) _).grown gr9 (fun k hk => by (simp [Value.ownBlock] at hk; right; omega))); (have b9 := x9.blk HBX.out); (have p9 : w9.cell? ⟨pq, 1, none⟩ = some (.slice (some ⟨g, 0, none⟩) (E.length + 1) cap) := by (rw [HQ.out.2.2.2.2.2.2.2] at b9; simp [World.cell?, b9])); (have f9 : w9.frozen? ⟨pq, 1, none⟩ = false := by simp [World.frozen?, b9]); (have H9 := Lib.hid (And.intro ol9 (And.intro x9 fr9))); clear ol9 x9 fr9 gr9 nn9 b9)
  go_ret
  obtain ⟨hin, hS, hm, hd, hb, hsu, hone, hl⟩ := HQ.out
  obtain ⟨B1, M1, hin1, _⟩ := HB.out
  obtain ⟨ol9, x9, fr9⟩ := H9.out
  simp only [Nat.zero_add, List.nil_append] at ol9 fr9
  obtain ⟨P1, P2, P3⟩ := rq_pop hin1 x9 ol9 (fun k hk => by
    rcases fr9 k hk with h | h
    · simp [Value.ownBlock] at h; omega
    · simp only [World.size_alloc] at h; omega)
  refine ⟨by simp, _, ⟨pq, _, _, rfl, P1, fun q => Iff.rfl⟩, B1.mod P2 (fun k hk h => hd k ((hS k).2 h) hk), (M1.weak (fun k h => .inl (.inr h))).trans' P2 (fun k h => .inl (.inl ((hS k).2 h))), fun k hk => ?_⟩
  rcases P3 k hk with h | h
  · exact .inl ((hS k).2 h)
  · exact .inr (Nat.le_trans M1.size h)
theorem rflush_any (w : World) (p q : Value) (room : Nat) (E : List Ent) (S : Nat → Prop) (h : RqAt w p room E S) (m : List Blk) (T : Nat → Prop) (hm : RefAt w q m T) (hd : ∀ k, S k → ¬ T k) :
    Calls Try.prog 66 #[p, q] w fun r w' => r = .returned (.bool (!E.isEmpty)) ∧ ∃ S', RqAt w' p room E.tail S' ∧ RefAt w' q (qflushM E m) T ∧ Mod (fun k => S k ∨ T k) w w' ∧ ∀ k, S' k → S k ∨ w.heap.size ≤ k := by
  cases E with
  | nil => exact (rflush_nil w p q room S h).mono fun r w' ⟨h1, h2⟩ => by subst h2; exact ⟨h1, S, h, hm, Mod.refl _ _, fun _ h => .inl h⟩
  | cons e E => exact rflush_cons w p q room e E S h m T hm hd
def RDrainRel (p q : Value) (room : Nat) (E : List Ent) (m : List Blk) (S T : Nat → Prop) (w : World) (k : Nat) (wr : World) : Prop :=
  ∃ E' m' S', E'.length = k ∧ RqAt wr p room E' S' ∧ RefAt wr q m' T ∧ qdrainM E' m' = qdrainM E m ∧ Mod (fun k => S k ∨ T k) w wr ∧ ∀ k, S' k → S k ∨ w.heap.size ≤ k
set_option maxRecDepth 100000 in
theorem rdrain_any (w : World) (p q : Value) (room : Nat) (E : List Ent) (S : Nat → Prop) (h : RqAt w p room E S) (m : List Blk) (T : Nat → Prop) (hm : RefAt w q m T) (hd : ∀ k, S k → ¬ T k) :
    Calls Try.prog 68 #[p, q] w fun r w' => r = .returned (.tuple #[]) ∧ ∃ S', RqAt w' p room [] S' ∧ RefAt w' q (qdrainM E m) T ∧ Mod (fun k => S k ∨ T k) w w' ∧ ∀ k, S' k → S k ∨ w.heap.size ≤ k := by
  have R0 : RDrainRel p q room E m S T w E.length w := ⟨E, m, S, rfl, h, hm, rfl, Mod.refl _ _, fun _ h => .inl h⟩
  have HD : Hid (∀ k, (S k ∨ w.heap.size ≤ k) → ¬ T k) := Lib.hid fun k hk ht => hk.elim (fun h => hd k h ht) (fun h => by have := hm.lt ht; omega)
  clear h hm hd
  go_enter Try.func68, Try.ntmps68
  go_wp2_with fail
  go_loopg [] E.length (fun k wr => RDrainRel p q room E m S T w k wr)
  case atStart => exact R0
  case round =>
    clear R0
    obtain ⟨E', m', S', hk, hq, hb, he, hM, hS⟩ := hrel
    cases E' with
    | nil =>
      have H := Lib.hid (And.intro he (And.intro hb (And.intro hM (And.intro hS hq))))
      clear he hk hb hM hS
      go_wp2_with fail
      refine (rflush_nil _ _ _ _ _ hq).mono ?_
      rintro r w1 ⟨rfl, rfl⟩
      clear hq
      go_wp2_with fail
      go_end0
      obtain ⟨he, hb, hM, hS, hq⟩ := H.out
      refine ⟨rfl, S', hq, ?_, hM, hS⟩
      rw [← he]; exact hb
    | cons e E' =>
      have H := Lib.hid (And.intro he (And.intro hk (And.intro hM hS)))
      clear he hk hM hS
      go_wp2_with fail
      refine (rflush_cons _ _ _ _ _ _ _ hq _ _ hb (fun k hk => HD.out k (H.out.2.2.2 k hk))).mono ?_
      rintro r w1 ⟨rfl, S1, Q1, B1, M1, s1⟩
      have H1 := Lib.hid (And.intro Q1 (And.intro B1 (And.intro M1 s1)))
      clear Q1 B1 M1 s1 hq hb
      go_wp2_with fail
      go_roundg E'.length
      case rel =>
        obtain ⟨he, hk, hM, hS⟩ := H.out
        obtain ⟨Q1, B1, M1, s1⟩ := H1.out
        refine ⟨E', _, S1, rfl, Q1, B1, ?_, hM.trans' M1 (fun i hi => hi.elim (fun h => (hS i h).imp .inl id) (fun h => .inl (.inr h))), fun k h => (s1 k h).elim (hS k) (fun h => .inr (Nat.le_trans hM.size h))⟩
        rw [← qdrainM_cons]; exact he
      case measure =>
        have := H.out.2.1
        simp at this; omega
end Go.Proofs.Ytnnciakdeoopaaa
