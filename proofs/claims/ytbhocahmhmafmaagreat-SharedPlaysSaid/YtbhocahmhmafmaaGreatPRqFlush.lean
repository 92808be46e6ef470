/-
  The contracts of (*renref18.Queue).Flush, Drain. No condition. The contract of (*renref18.Queue).Tear. No condition. The contracts of (*renref18.Queue).Copy. No condition.
-/
import Derived.Test.YtbhocahmhmafmaaGreatPRqAt
import Derived.Test.YtbhocahmhmafmaaGreatPRefAt
import Derived.Deep.LoopGhost
import Derived.Test.YtbhocahmhmafmaaGreatPFifoDelete
import Derived.Test.YtbhocahmhmafmaaGreatPPlan
namespace Go.Proofs.YtbhocahmhmafmaaGreat
open Go.Ren Go.RowKit
set_option linter.unusedVariables false
theorem rq_pop {w w3 : World} {pq room : Nat} {lv lv' : Value} {V : Nat → Value} {e : Ent} {E : List Ent} (hin : RqIn w pq lv V room (e :: E)) (x : Ext w w3)
 (o : Own w3 155 5 lv' E.length (flat 5 E.length (fun i j => ecell (ent E i) (V (i + 1)) j))) (fr : ∀ k, lv'.ownBlock = some k → w.heap.size ≤ k) :
 RqIn (w3.setCell ⟨pq, 1, none⟩ lv') pq lv' (fun i => V (i + 1)) room E ∧ Mod (RqFp pq lv V (e :: E).length) w (w3.setCell ⟨pq, 1, none⟩ lv') ∧ ∀ k, RqFp pq lv' (fun i => V (i + 1)) E.length k → RqFp pq lv V (e :: E).length k ∨ w.heap.size ≤ k := by
 have hl : (e :: E).length = E.length + 1 := by simp
 have C0 := x.blk hin.box
 have Ms : Mod (fun q => q = pq) w3 (w3.setCell ⟨pq, 1, none⟩ lv') := Mod.setCell (F := fun q => q = pq) (Mod.refl _ _) (.inl rfl) _
 have far : ∀ i k, i < E.length → fp (V (i + 1)) k → k ≠ pq ∧ k < w.heap.size := fun i k hi hk =>
  ⟨(hin.far (i + 1) k (by rw [hl]; omega) hk).1, Sl.lt (hin.bs (i + 1) (by rw [hl]; omega)) (by decide) hk⟩
 refine ⟨⟨?_, ?_, ?_, ?_, ?_, hin.rng, by have := hin.cnt; rw [hl] at this; omega⟩, (x.mod _).trans' Ms (fun i hi => .inl (.inl hi)), ?_⟩
 · simp [World.setCell, Array.getElem?_modify, C0]
 · exact o.mod Ms (fun k hk h => by subst h; exact o.apart_obj C0 (by decide) hk)
 · intro i hi
   have hb := hin.bs (i + 1) (by rw [hl]; omega)
   rw [ent_cons_succ] at hb
   exact BytesAt.mod (BytesAt.ext hb x) Ms (fun k hk => (far i k hi hk).1)
 · intro i k hi hk
   refine ⟨(far i k hi hk).1, fun h => ?_⟩
   have h1 := fr k h
   have h2 := (far i k hi hk).2
   omega
 · intro i hi
   have := hin.ok (i + 1) (by rw [hl]; omega)
   rwa [ent_cons_succ] at this
 · intro k hk
   rcases hk with rfl | hk | ⟨i, hi, hk⟩
   · exact .inl (.inl rfl)
   · exact .inr (fr k hk)
   · exact .inl (.inr (.inr ⟨i + 1, by rw [hl]; omega, hk⟩))
theorem rflush_nil (w : World) (p q : Value) (room : Nat) (S : Nat → Prop) (h : RqAt w p room [] S) :
 Calls Tryz.prog 113 #[p, q] w fun e w' => e = .returned (.bool false) ∧ w = w' := by
 obtain ⟨pq, lv, V, rfl, hin, _⟩ := h.ex
 have c0 := hin.c1
 have l0 := hin.row.sl.run_len (P := Tryz.prog) IRQ.und 3
 simp only [List.length_nil, Int.natCast_zero] at l0
 clear hin h
 go_enter Tryz.func113, Tryz.ntmps113
 go_wp2
 go_ret
 exact ⟨rfl, rfl⟩
theorem own_empty5 (w : World) (e : TypeId) : Own (w.alloc (.cells #[] e)) e 5 (.slice (some ⟨w.heap.size, 0, none⟩) 0 0) 0 [] := Own.made w #[] e 5 0 (by simp [maxLen]) rfl
set_option maxRecDepth 100000 in
set_option maxHeartbeats 1600000 in
theorem rflush_cons (w : World) (p q : Value) (room : Nat) (e : Ent) (E : List Ent) (S : Nat → Prop) (h : RqAt w p room (e :: E) S) (m : List Blk) (T : Nat → Prop) (hm : RefAt w q m T) (hd : ∀ k, S k → ¬ T k) :
 Calls Tryz.prog 113 #[p, q] w fun r w' => r = .returned (.bool true) ∧ ∃ S', RqAt w' p room E S' ∧ RefAt w' q (qflushM (e :: E) m) T ∧ Mod (fun k => S k ∨ T k) w w' ∧ ∀ k, S' k → S k ∨ w.heap.size ≤ k := by
 obtain ⟨pq, lv, V, rfl, hin, hS⟩ := h.ex
 have hl : (e :: E).length = E.length + 1 := by simp
 obtain ⟨g, cap, rfl, hc1, hc2⟩ := hin.row_some (by rw [hl]; omega)
 obtain ⟨c1, c2, c3, c4, c5⟩ := hin.cells (i := 0) (by rw [hl]; omega)
 rw [ent_cons_zero] at c1 c2 c4 c5
 simp only [Nat.zero_mul, at_own, Nat.zero_add] at c1 c2 c3 c4 c5
 have hb := hin.bs 0 (by rw [hl]; omega)
 have hok := hin.ok 0 (by rw [hl]; omega)
 rw [ent_cons_zero] at hb hok
 have c0 := hin.c1
 have l0 := hin.row.sl.run_len (P := Tryz.prog) IRQ.und 3
 have i0 := hin.row.sl.run_idx (P := Tryz.prog) IRQ.und IRQ.size .i64 0 (by rw [hl]; omega)
 obtain ⟨U, hU⟩ : ∃ U, U = sub_ (.slice (some ⟨g, 0, none⟩) (e :: E).length cap) 1 (e :: E).length 5 := ⟨_, rfl⟩
 have s1 : ∀ w', (Instr.sliceAt 87 (.slice (some ⟨g, 0, none⟩) (e :: E).length cap) (some (.int .i64 1)) none none).run Tryz.prog w' = .ok U w' := fun w' => by
  rw [hU]; exact hin.row.sl.run_sub_lo (P := Tryz.prog) IRQ.und IRQ.size .i64 1 (by rw [hl]; omega) w'
 have hsu : Sl w U 5 E.length (flat 5 E.length (fun i j => ecell (ent E i) (V (i + 1)) j)) := by
  have h1 := hin.row.sl.sub 1 (e :: E).length (by rw [hl]; omega) (Nat.le_refl _)
  rw [← hU] at h1
  have e1 : (e :: E).length - 1 = E.length := by rw [hl]; omega
  rw [e1, Nat.one_mul, hl, flat_drop 5 E.length _ (by decide), List.take_of_length_le (by rw [flat_len]; exact Nat.le_refl _)] at h1
  simpa only [ent_cons_succ] using h1
 have hone : ∀ u ∈ flat 5 E.length (fun i j => ecell (ent E i) (V (i + 1)) j), u.oneCell' = true := one_flat fun i j hi _ => ecell_one _ _ _ (Sl.one (hin.bs (i + 1) (by rw [hl]; omega)))
 have hrm := hin.rng
 have hcnt := hin.cnt
 rw [hl] at l0 i0 s1 hcnt c0
 have k1 := Sl.cells_eq hb
 have t1 := Sl.run_st (P := Tryz.prog) hb
 have hby := hok.by_
 have hlb := hok.len
 have hne : (((E.length + 1 : Nat) : Int) == 0) = false := by simp; omega
 simp only [Nat.zero_mul, at_own] at i0
 have HQ := Lib.hid (And.intro hin (And.intro hS (And.intro hm (And.intro hd (And.intro hb (And.intro hsu (And.intro hone hl)))))))
 obtain ⟨V0, hV0⟩ : ∃ x, x = V 0 := ⟨_, rfl⟩
 rw [← hV0] at c3 k1 t1
 have HV := Lib.hid hV0
 have HUU := Lib.hid hU
 clear h hin hS hm hd hb hl hok hV0 hU hsu hone
 go_enter Tryz.func113, Tryz.ntmps113
 go_wp2_with fail
 obtain ⟨w0, hw0⟩ : ∃ w0, w0 = w.alloc (.cells #[.int .i64 e.blk, .int .i64 e.at_, V0, .int .i64 e.by_, .bool e.tears] 155) := ⟨_, rfl⟩
 have x0 : Ext w w0 := by rw [hw0]; exact (Mod.refl _ _).alloc _
 rw [← hw0]
 clear hw0
 obtain ⟨hin, hS, hm, hd, hb, hsu, hone, hl⟩ := HQ.out
 refine (rwrite_any _ _ _ _ (hm.ext x0) _ _ _ e.b (by rw [HV.out]; exact hb.ext x0) (fun k hk => by rw [HV.out] at hk; exact hd k ((hS k).2 (.inr (.inr ⟨0, by rw [hl]; omega, hk⟩)))) (by omega) _ (show I64 e.by_ from ⟨by omega, by omega⟩)).mono ?_
 rintro r w1 ⟨rfl, B1, m1⟩
 have M1 : Mod T w w1 := (x0.mod T).trans m1
 have hin1 := hin.mod M1 (fun k hk => hd k ((hS k).2 hk))
 have d0 := hin1.c1
 rw [hl] at d0
 have hsu1 : Sl w1 U 5 E.length (flat 5 E.length (fun i j => ecell (ent E i) (V (i + 1)) j)) := hsu.mod (by decide) M1 (fun k hk => by
  rw [HUU.out] at hk
  have h1 : fp (.slice (some ⟨g, 0, none⟩) (e :: E).length cap) k := fp_sub (by simp [slen]) hk
  exact hd k ((hS k).2 (.inr (.inl (fp_ob h1)))))
 have HB := Lib.hid (And.intro B1 (And.intro M1 (And.intro hin1 hsu1)))
 have hbx := hin1.box
 have HBX := Lib.hid hbx
 have d1 : (w1.alloc (.cells #[] 155)).cell? ⟨pq, 1, none⟩ = some (.slice (some ⟨g, 0, none⟩) (E.length + 1) cap) := Ext.cell ((Mod.refl _ _).alloc _) d0
 clear hin hS hm hd hb hl hsu hone x0 m1 hin1 B1 M1 c0 c1 c2 c3 c4 c5 k1 t1 hsu1 hbx
 go_wp2_with (at_builtin; go_loud (refine wpList_app IRQ rfl (.tmp 29) (.tmp 34) rfl (own_empty5 _ _) (HB.out.2.2.2.ext (by decide) (Mod.alloc (Mod.refl _ _) _)) HQ.out.2.2.2.2.2.2.1 (by simp [Act.eval]) (by simp [Act.eval]) (by omega) (by simp only [maxLen]; omega) ?_); intro lv9 w9 ol9 gr9 fr9 nn9; (obtain ⟨la9, lc9, hlv9, _⟩ := ol9.sl.shape); subst hlv9; (have x9 : Ext w1 w9 := (Mod.alloc (Mod.refl _ _) _).grown gr9 (fun k hk => by (simp [Value.ownBlock] at hk; right; omega))); (have b9 := x9.blk HBX.out); (have p9 : w9.cell? ⟨pq, 1, none⟩ = some (.slice (some ⟨g, 0, none⟩) (E.length + 1) cap) := by (rw [HQ.out.2.2.2.2.2.2.2] at b9; simp [World.cell?, b9])); (have f9 : w9.frozen? ⟨pq, 1, none⟩ = false := by simp [World.frozen?, b9]); (have H9 := Lib.hid (And.intro ol9 (And.intro x9 fr9))); clear ol9 x9 fr9 gr9 nn9 b9)
 go_ret
 obtain ⟨hin, hS, hm, hd, hb, hsu, hone, hl⟩ := HQ.out
 obtain ⟨B1, M1, hin1, _⟩ := HB.out
 obtain ⟨ol9, x9, fr9⟩ := H9.out
 simp only [Nat.zero_add, List.nil_append] at ol9 fr9
 obtain ⟨P1, P2, P3⟩ := rq_pop hin1 x9 ol9 (fun k hk => by
  rcases fr9 k hk with h | h
  · simp [Value.ownBlock] at h; omega
  · simp only [World.size_alloc] at h; omega)
 refine ⟨by simp, _, ⟨pq, _, _, rfl, P1, fun q => Iff.rfl⟩, B1.mod P2 (fun k hk h => hd k ((hS k).2 h) hk), (M1.weak (fun k h => .inl (.inr h))).trans' P2 (fun k h => .inl (.inl ((hS k).2 h))), fun k hk => ?_⟩
 rcases P3 k hk with h | h
 · exact .inl ((hS k).2 h)
 · exact .inr (Nat.le_trans M1.size h)
theorem rflush_any (w : World) (p q : Value) (room : Nat) (E : List Ent) (S : Nat → Prop) (h : RqAt w p room E S) (m : List Blk) (T : Nat → Prop) (hm : RefAt w q m T) (hd : ∀ k, S k → ¬ T k) :
 Calls Tryz.prog 113 #[p, q] w fun r w' => r = .returned (.bool (!E.isEmpty)) ∧ ∃ S', RqAt w' p room E.tail S' ∧ RefAt w' q (qflushM E m) T ∧ Mod (fun k => S k ∨ T k) w w' ∧ ∀ k, S' k → S k ∨ w.heap.size ≤ k := by
 cases E with
 | nil => exact (rflush_nil w p q room S h).mono fun r w' ⟨h1, h2⟩ => by subst h2; exact ⟨h1, S, h, hm, Mod.refl _ _, fun _ h => .inl h⟩
 | cons e E => exact rflush_cons w p q room e E S h m T hm hd
def RDrainRel (p q : Value) (room : Nat) (E : List Ent) (m : List Blk) (S T : Nat → Prop) (w : World) (k : Nat) (wr : World) : Prop :=
 ∃ E' m' S', E'.length = k ∧ RqAt wr p room E' S' ∧ RefAt wr q m' T ∧ qdrainM E' m' = qdrainM E m ∧ Mod (fun k => S k ∨ T k) w wr ∧ ∀ k, S' k → S k ∨ w.heap.size ≤ k
set_option maxRecDepth 100000 in
theorem rdrain_any (w : World) (p q : Value) (room : Nat) (E : List Ent) (S : Nat → Prop) (h : RqAt w p room E S) (m : List Blk) (T : Nat → Prop) (hm : RefAt w q m T) (hd : ∀ k, S k → ¬ T k) :
 Calls Tryz.prog 106 #[p, q] w fun r w' => r = .returned (.tuple #[]) ∧ ∃ S', RqAt w' p room [] S' ∧ RefAt w' q (qdrainM E m) T ∧ Mod (fun k => S k ∨ T k) w w' ∧ ∀ k, S' k → S k ∨ w.heap.size ≤ k := by
 have R0 : RDrainRel p q room E m S T w E.length w := ⟨E, m, S, rfl, h, hm, rfl, Mod.refl _ _, fun _ h => .inl h⟩
 have HD : Hid (∀ k, (S k ∨ w.heap.size ≤ k) → ¬ T k) := Lib.hid fun k hk ht => hk.elim (fun h => hd k h ht) (fun h => by have := hm.lt ht; omega)
 clear h hm hd
 go_enter Tryz.func106, Tryz.ntmps106
 go_wp2_with fail
 go_loopg [] E.length (fun k wr => RDrainRel p q room E m S T w k wr)
 case atStart => exact R0
 case round =>
  clear R0
  obtain ⟨E', m', S', hk, hq, hb, he, hM, hS⟩ := hrel
  cases E' with
  | nil =>
   have H := Lib.hid (And.intro he (And.intro hb (And.intro hM (And.intro hS hq))))
   clear he hk hb hM hS
   go_wp2_with fail
   refine (rflush_nil _ _ _ _ _ hq).mono ?_
   rintro r w1 ⟨rfl, rfl⟩
   clear hq
   go_wp2_with fail
   go_end0
   obtain ⟨he, hb, hM, hS, hq⟩ := H.out
   refine ⟨rfl, S', hq, ?_, hM, hS⟩
   rw [← he]; exact hb
  | cons e E' =>
   have H := Lib.hid (And.intro he (And.intro hk (And.intro hM hS)))
   clear he hk hM hS
   go_wp2_with fail
   refine (rflush_cons _ _ _ _ _ _ _ hq _ _ hb (fun k hk => HD.out k (H.out.2.2.2 k hk))).mono ?_
   rintro r w1 ⟨rfl, S1, Q1, B1, M1, s1⟩
   have H1 := Lib.hid (And.intro Q1 (And.intro B1 (And.intro M1 s1)))
   clear Q1 B1 M1 s1 hq hb
   go_wp2_with fail
   go_roundg E'.length
   case rel =>
    obtain ⟨he, hk, hM, hS⟩ := H.out
    obtain ⟨Q1, B1, M1, s1⟩ := H1.out
    refine ⟨E', _, S1, rfl, Q1, B1, ?_, hM.trans' M1 (fun i hi => hi.elim (fun h => (hS i h).imp .inl id) (fun h => .inl (.inr h))), fun k h => (s1 k h).elim (hS k) (fun h => .inr (Nat.le_trans hM.size h))⟩
    rw [← qdrainM_cons]; exact he
   case measure =>
    have := H.out.2.1
    simp at this; omega
end Go.Proofs.YtbhocahmhmafmaaGreat
namespace Go.Proofs.YtbhocahmhmafmaaGreat
open Go.Ren Go.RowKit
set_option linter.unusedVariables false
theorem rq_tear {w w8 : World} {pq room g n cap : Nat} {V : Nat → Value} {e : Ent} {E : List Ent} {vb : Value} (hn : E.length = n) (ht : tearsE e = true) (hin : RqIn w pq (.slice (some ⟨g, 0, none⟩) (n + 1) cap) V room (e :: E)) (x : Ext w w8)
 (ob : Own w8 5 1 vb (tearEnt e).b.length ((tearEnt e).b.map bv)) (nb : ∀ k, vb.ownBlock = some k → w.heap.size ≤ k) :
 RqIn (((((w8.setCell ⟨g, 0, none⟩ (.int .i64 e.blk)).setCell ⟨g, 1, none⟩ (.int .i64 (tearEnt e).at_)).setCell ⟨g, 2, none⟩ vb).setCell ⟨g, 3, none⟩ (.int .i64 e.by_)).setCell ⟨g, 4, none⟩ (.bool false)) pq (.slice (some ⟨g, 0, none⟩) (n + 1) cap) (updV V 0 vb) room (tearEnt e :: E) ∧
  Mod (fun q => q = g) w8 (((((w8.setCell ⟨g, 0, none⟩ (.int .i64 e.blk)).setCell ⟨g, 1, none⟩ (.int .i64 (tearEnt e).at_)).setCell ⟨g, 2, none⟩ vb).setCell ⟨g, 3, none⟩ (.int .i64 e.by_)).setCell ⟨g, 4, none⟩ (.bool false)) ∧
  ∀ k, fp vb k → w.heap.size ≤ k := by
 have hl : (e :: E).length = n + 1 := by simp [hn]
 have hl2 : (tearEnt e :: E).length = n + 1 := by simp [hn]
 have R := hin.row
 rw [hl] at R
 have hgl := R.lt (k := g) (by simp [Value.ownBlock])
 have R8 := R.ext x
 have M : Mod (fun q => q = g) w8 (((((w8.setCell ⟨g, 0, none⟩ (.int .i64 e.blk)).setCell ⟨g, 1, none⟩ (.int .i64 (tearEnt e).at_)).setCell ⟨g, 2, none⟩ vb).setCell ⟨g, 3, none⟩ (.int .i64 e.by_)).setCell ⟨g, 4, none⟩ (.bool false)) :=
  Mod.setCell (F := fun q => q = g) (Mod.setCell (F := fun q => q = g) (Mod.setCell (F := fun q => q = g) (Mod.setCell (F := fun q => q = g) (Mod.setCell (F := fun q => q = g) (Mod.refl _ _) (.inl rfl) _) (.inl rfl) _) (.inl rfl) _) (.inl rfl) _) (.inl rfl) _
 have hok := hin.ok 0 (by rw [hl]; omega)
 rw [ent_cons_zero] at hok
 have hnb : ∀ k, fp vb k → w.heap.size ≤ k := fun k hk => nb k (fp_ob hk)
 have far : ∀ i k, i < n + 1 → fp (V i) k → k ≠ pq ∧ g ≠ k := fun i k hi hk => by
  have := hin.far i k (by rw [hl]; omega) hk
  simpa [Value.ownBlock] using this
 have B8 := x.blk hin.box
 refine ⟨⟨?_, ?_, ?_, ?_, ?_, hin.rng, by have := hin.cnt; rw [hl] at this; rw [hl2]; omega⟩, M, hnb⟩
 · exact M.blk B8 (fun h => R8.apart_obj B8 (by decide) (by simp [Value.ownBlock, h]))
 · rw [hl2]
   have s0 := R8.set (by omega) (0 * 5 + 0) (.int .i64 e.blk)
   have s1 := s0.set (by omega) (0 * 5 + 1) (.int .i64 (tearEnt e).at_)
   have s2 := s1.set (by omega) (0 * 5 + 2) vb
   have s3 := s2.set (by omega) (0 * 5 + 3) (.int .i64 e.by_)
   have s4 := s3.set (by omega) (0 * 5 + 4) (.bool false)
   rw [flat_set _ (by decide), flat_set _ (by decide), flat_set _ (by decide), flat_set _ (by decide), flat_set _ (by decide)] at s4
   simp only [at_own, Nat.zero_mul, Nat.zero_add] at s4
   refine cast ?_ s4
   congr 1
   refine flat_congr fun i j hi hj => ?_
   by_cases e0 : i = 0
   · subst e0
     rw [ent_cons_zero, updV_same]
     match j, hj with
     | 0, _ => rfl
     | 1, _ => rfl
     | 2, _ => rfl
     | 3, _ => rfl
     | 4, _ => rfl
   · obtain ⟨i, rfl⟩ : ∃ k, i = k + 1 := ⟨i - 1, by omega⟩
     simp [ent_cons_succ, updV]
 · intro i hi
   rw [hl2] at hi
   by_cases e0 : i = 0
   · subst e0
     rw [ent_cons_zero, updV_same]
     exact BytesAt.mod ob.sl M (fun k hk h => by have := hnb k hk; omega)
   · obtain ⟨i, rfl⟩ : ∃ k, i = k + 1 := ⟨i - 1, by omega⟩
     have hb := hin.bs (i + 1) (by rw [hl]; omega)
     rw [ent_cons_succ] at hb ⊢
     have e1 : updV V 0 vb (i + 1) = V (i + 1) := by simp [updV]
     rw [e1]
     exact BytesAt.mod (BytesAt.ext hb x) M (fun k hk h => (far (i + 1) k (by omega) hk).2 h.symm)
 · intro i k hi hk
   rw [hl2] at hi
   by_cases e0 : i = 0
   · subst e0
     rw [updV_same] at hk
     have := hnb k hk
     have hpq := lt_of_block hin.box
     refine ⟨by omega, fun h => ?_⟩
     simp [Value.ownBlock] at h
     omega
   · have e1 : updV V 0 vb i = V i := by simp [updV, e0]
     rw [e1] at hk
     have := far i k (by omega) hk
     simpa [Value.ownBlock] using this
 · intro i hi
   rw [hl2] at hi
   by_cases e0 : i = 0
   · subst e0; rw [ent_cons_zero]; exact tearEnt_ok hok ht
   · obtain ⟨i, rfl⟩ : ∃ k, i = k + 1 := ⟨i - 1, by omega⟩
     have := hin.ok (i + 1) (by rw [hl]; omega)
     rwa [ent_cons_succ] at this ⊢
theorem rtear_nil (w : World) (p q : Value) (room : Nat) (S : Nat → Prop) (h : RqAt w p room [] S) :
 Calls Tryz.prog 119 #[p, q] w fun e w' => e = .returned (.bool false) ∧ w = w' := by
 obtain ⟨pq, lv, V, rfl, hin, _⟩ := h.ex
 have c0 := hin.c1
 have l0 := hin.row.sl.run_len (P := Tryz.prog) IRQ.und 3
 simp only [List.length_nil, Int.natCast_zero] at l0
 clear hin h
 go_enter Tryz.func119, Tryz.ntmps119
 go_wp2
 go_ret
 exact ⟨rfl, rfl⟩
set_option maxRecDepth 100000 in
set_option maxHeartbeats 1600000 in
theorem rtear_cons (w : World) (p q : Value) (room : Nat) (e : Ent) (E : List Ent) (S : Nat → Prop) (h : RqAt w p room (e :: E) S) (m : List Blk) (T : Nat → Prop) (hm : RefAt w q m T) (hd : ∀ k, S k → ¬ T k) :
 Calls Tryz.prog 119 #[p, q] w fun r w' => r = .returned (.bool (tearsE e)) ∧ ∃ S', RqAt w' p room (qtear (e :: E)) S' ∧ RefAt w' q (qtearM (e :: E) m) T ∧ Mod (fun k => S k ∨ T k) w w' ∧ ∀ k, S' k → S k ∨ w.heap.size ≤ k := by
 have H0 := Lib.hid (And.intro h hm)
 obtain ⟨pq, lv, V, rfl, hin, hS⟩ := h.ex
 obtain ⟨n, hn⟩ : ∃ n, E.length = n := ⟨_, rfl⟩
 have hl : (e :: E).length = n + 1 := by simp [hn]
 obtain ⟨g, cap, rfl, hc1, hc2⟩ := hin.row_some (by rw [hl]; omega)
 rw [hl] at hin hc1 hS
 obtain ⟨c1, c2, c3, c4, c5⟩ := hin.cells (i := 0) (by rw [hl]; omega)
 rw [ent_cons_zero] at c1 c2 c4 c5
 simp only [Nat.zero_mul, at_own, Nat.zero_add] at c1 c2 c3 c4 c5
 have hb := hin.bs 0 (by rw [hl]; omega)
 have hok := hin.ok 0 (by rw [hl]; omega)
 rw [ent_cons_zero] at hb hok
 have c0 := hin.c1
 have l0 := hin.row.sl.run_len (P := Tryz.prog) IRQ.und 3
 rw [hl] at l0
 have i0 := hin.row.sl.run_idx (P := Tryz.prog) IRQ.und IRQ.size .i64 0 (by rw [hl]; omega)
 simp only [Nat.zero_mul, at_own] at i0
 have hne : (((n + 1 : Nat) : Int) == 0) = false := by simp; omega
 have lb := Sl.run_len (P := Tryz.prog) hb IB.und 3
 have k1 := Sl.cells_eq hb
 have t1 := Sl.run_st (P := Tryz.prog) hb
 have hcm : cap ≤ 9223372036854775807 := by simpa only [maxLen] using hc2
 have hby := hok.by_
 have hlb := hok.len
 have hat := hok.at_
 obtain ⟨V0, hV0⟩ : ∃ x, x = V 0 := ⟨_, rfl⟩
 rw [← hV0] at c3 lb k1 t1
 have HV := Lib.hid hV0
 by_cases ht : tearsE e = true
 case neg =>
  have e1 : tearsE e = false := by simpa using ht
  have e2 : qtear (e :: E) = e :: E := by simp [qtear, e1]
  have e3 : qtearM (e :: E) m = m := by simp [qtearM, e1]
  rw [e1, e2, e3]
  clear e1 e2 e3 h hm hin hS hb hok hV0 hn
  by_cases htt : e.tears = true
  · have hlt : ¬ (2 ≤ e.b.length) := fun h => ht (by simp [tearsE, htt, h])
    have hlt' : (e.b.length : Int) < 2 := by omega
    rw [htt] at c5
    clear ht htt hl
    go_enter Tryz.func119, Tryz.ntmps119
    go_wp2
    go_ret
    exact ⟨rfl, S, H0.out.1, H0.out.2, Mod.refl _ _, fun _ h => .inl h⟩
  · have htf : e.tears = false := by simpa using htt
    rw [htf] at c5
    clear ht htt htf hl
    go_enter Tryz.func119, Tryz.ntmps119
    go_wp2
    go_ret
    exact ⟨rfl, S, H0.out.1, H0.out.2, Mod.refl _ _, fun _ h => .inl h⟩
 case pos =>
  have e2 : qtear (e :: E) = tearEnt e :: E := by simp [qtear, ht]
  have e3 : qtearM (e :: E) m = bwrite m e.blk e.at_ (e.b.take (e.b.length / 2)) e.by_ := by simp [qtearM, ht]
  rw [ht, e2, e3]
  have htt : e.tears = true := by simp [tearsE] at ht; exact ht.1
  have hlt : 2 ≤ e.b.length := by simp [tearsE] at ht; exact ht.2
  have hlt' : ¬ (e.b.length : Int) < 2 := by omega
  rw [htt] at c5
  have hq : ((e.b.length / 2 : Nat) : Int) = (e.b.length : Int) / 2 := by omega
  have s1 := Sl.run_sub_hi (P := Tryz.prog) hb IB.und IB.size .i64 (e.b.length / 2) (by omega)
  have s2 := Sl.run_sub_lo (P := Tryz.prog) hb IB.und IB.size .i64 (e.b.length / 2) (by omega)
  rw [hq, ← hV0] at s1 s2
  have hb1 := cut_bytes hb (a := 0) (n := e.b.length / 2) (by omega)
  rw [Nat.zero_add, show cut e.b 0 (e.b.length / 2) = e.b.take (e.b.length / 2) by simp [cut], ← hV0] at hb1
  have hb2 := cut_bytes hb (a := e.b.length / 2) (n := e.b.length - e.b.length / 2) (by omega)
  rw [show e.b.length / 2 + (e.b.length - e.b.length / 2) = e.b.length by omega, show cut e.b (e.b.length / 2) (e.b.length - e.b.length / 2) = (tearEnt e).b by simp only [cut, tearEnt]; exact List.take_of_length_le (by simp), ← hV0] at hb2
  have lt1 : ((e.b.take (e.b.length / 2)).length) ≤ 8 := by simp; omega
  have HTL : Hid ((tearEnt e).b.length ≤ 8) := Lib.hid (by simp only [tearEnt, List.length_drop]; omega)
  have hsum : IntKind.i64.wrap (e.at_ + (e.b.length : Int) / 2) = e.at_ + (e.b.length : Int) / 2 := IntWalk.i64_in _ (by omega)
  have hat' : e.at_ + (e.b.length : Int) / 2 = (tearEnt e).at_ := by simp only [tearEnt]; omega
  have hfp1 : ∀ k, fp (sub_ V0 0 (e.b.length / 2) 1) k → ¬ T k := fun k hk => by
   have h1 : fp V0 k := fp_sub (by rw [hV0, Sl.slen_eq hb]; omega) hk
   rw [hV0] at h1
   exact hd k ((hS k).2 (.inr (.inr ⟨0, by omega, h1⟩)))
  have hfp2 : ∀ k, fp (sub_ V0 (e.b.length / 2) e.b.length 1) k → ¬ T k := fun k hk => by
   have h1 : fp V0 k := fp_sub (by rw [hV0, Sl.slen_eq hb]; exact Nat.le_refl _) hk
   rw [hV0] at h1
   exact hd k ((hS k).2 (.inr (.inr ⟨0, by omega, h1⟩)))
  obtain ⟨w0, hw0⟩ : ∃ w0, w0 = w.alloc (.cells #[.int .i64 e.blk, .int .i64 e.at_, V0, .int .i64 e.by_, .bool true] 155) := ⟨_, rfl⟩
  obtain ⟨g5, hg5⟩ : ∃ g, g = w.heap.size := ⟨_, rfl⟩
  have x0 : Ext w w0 := by rw [hw0]; exact (Mod.refl _ _).alloc _
  have h5 : w0.heap[g5]? = some (.cells #[.int .i64 e.blk, .int .i64 e.at_, V0, .int .i64 e.by_, .bool true] 155 (0, 0)) := by rw [hw0, hg5]; exact heap_alloc_new _ _
  have hT5 : ¬ T g5 := fun h => by have := hm.lt h; omega
  have KF : Hid (∀ w', Mod T w0 w' → w'.cell? ⟨g5, 0, none⟩ = some (.int .i64 e.blk) ∧ w'.cell? ⟨g5, 1, none⟩ = some (.int .i64 e.at_) ∧ w'.cell? ⟨g5, 2, none⟩ = some V0 ∧ w'.cell? ⟨g5, 3, none⟩ = some (.int .i64 e.by_)) := Lib.hid fun w' M => by
   have := M.blk h5 hT5
   simp [World.cell?, this]
  have d0 : w0.cell? ⟨g5, 0, none⟩ = some (.int .i64 e.blk) := by simp [World.cell?, h5]
  have d2 : w0.cell? ⟨g5, 2, none⟩ = some V0 := by simp [World.cell?, h5]
  have HQ := Lib.hid (And.intro hin (And.intro hS (And.intro (hm.ext x0) (And.intro hd (And.intro (hb1.ext x0) (And.intro hfp1 (And.intro hn (And.intro hl (And.intro ht (And.intro hat' (And.intro (hb2.ext x0) (And.intro hfp2 x0))))))))))))
  have HW0 := Lib.hid (And.intro hw0 (And.intro hg5 h5))
  clear e2 e3 htt h hin hS hm hd hb hn hl hok ht hV0 hq hb1 hb2 hat' hfp1 hfp2 hw0 hg5 x0 h5 hT5
  go_enter Tryz.func119, Tryz.ntmps119
  go_upto_region 4 with fail
  rw [← HW0.out.1, ← HW0.out.2.1]
  clear c0 c1 c2 c3 c4 c5 k1 t1
  go_upto_region 5 with fail
  clear d0 d2
  refine wp_region_plan [(0, true), (1, true), (2, true), (3, true), (4, true), (5, true), (6, true), (7, true), (8, true), (9, true), (10, true), (11, false)] (fun w' => w'.cell? ⟨g5, 0, none⟩ = some (.int .i64 e.blk) ∧ w'.cell? ⟨g5, 1, none⟩ = some (.int .i64 e.at_) ∧ w'.cell? ⟨g5, 2, none⟩ = some V0 ∧ w'.cell? ⟨g5, 3, none⟩ = some (.int .i64 e.by_)) (by kernel_rfl) (by kernel_rfl) (by kernel_rfl) (fun _ d _ _ _ h => by cases d <;> exact h) (KF.out _ (Mod.drew (Mod.refl _ _))) ?_
  simp only [planL, getO]
  iterate 11 (refine plan_take (v := ?_) (by rfl) (fun wS hS => ?_) ?_; rotate_left; (focus ((try dsimp only at hS); go_simp; (try with_reducible rfl); done)); (try simp only [Act.put, List.setIfInBounds_toArray, List.set_cons_zero, List.set_cons_succ]))
  refine plan_call (fun K hK => ?_)
  go_simp
  go_at_call 112; refine (rwrite_any _ _ _ _ (HQ.out.2.2.1.ext (Mod.drew (Mod.refl _ _))) _ _ _ (e.b.take (e.b.length / 2)) (HQ.out.2.2.2.2.1.ext (Mod.drew (Mod.refl _ _))) HQ.out.2.2.2.2.2.1 (by omega) _ (show I64 e.by_ from ⟨by omega, by omega⟩)).mono ?_; rintro r w1 ⟨rfl, B1, m1⟩; have M1 : Mod T w0 w1 := Mod.trans (Mod.drew (Mod.refl _ _)) m1
  refine hK.out _ _ (KF.out _ M1) ?_
  clear hK K
  (try simp only [Act.put, List.setIfInBounds_toArray, List.set_cons_zero, List.set_cons_succ])
  refine plan_nil ?_
  have M1 := M1
  have hinw0 := HQ.out.1.mod HQ.out.2.2.2.2.2.2.2.2.2.2.2.2 (fun k _ h => h)
  have hin1 := hinw0.mod M1 (fun k hk => HQ.out.2.2.2.1 k ((HQ.out.2.1 k).2 (by rw [← HQ.out.2.2.2.2.2.2.2.1]; exact hk)))
  have hc1' := hin1.c1
  have h51 := M1.blk HW0.out.2.2 (fun h => by have := (H0.out.2).lt h; have := HW0.out.2.1; omega)
  obtain ⟨r1, r2, r3, r4, r5⟩ := hin1.cells (i := 0) (by rw [HQ.out.2.2.2.2.2.2.2.1]; omega)
  rw [ent_cons_zero] at r1 r2 r4 r5
  simp only [Nat.zero_mul, at_own, Nat.zero_add] at r1 r2 r3 r4 r5
  have KQ : Hid (∀ w', Ext w1 w' → w'.cell? ⟨pq, 1, none⟩ = some (.slice (some ⟨g, 0, none⟩) (n + 1) cap) ∧ w'.cell? ⟨g5, 0, none⟩ = some (.int .i64 e.blk) ∧ w'.cell? ⟨g5, 1, none⟩ = some (.int .i64 e.at_) ∧ w'.cell? ⟨g5, 2, none⟩ = some V0 ∧ w'.cell? ⟨g5, 3, none⟩ = some (.int .i64 e.by_)) := Lib.hid fun w' x => by
   have h6 := x.blk h51
   exact ⟨Ext.cell x hc1', by simp [World.cell?, h6]⟩
  have KR : Hid (∀ w', Ext w1 w' → (w'.cell? ⟨g, 0, none⟩ = some (.int .i64 e.blk) ∧ w'.cell? ⟨g, 1, none⟩ = some (.int .i64 e.at_) ∧ w'.cell? ⟨g, 2, none⟩ = some (V 0) ∧ w'.cell? ⟨g, 3, none⟩ = some (.int .i64 e.by_) ∧ w'.cell? ⟨g, 4, none⟩ = some (.bool e.tears)) ∧ (w'.frozen? ⟨g, 0, none⟩ = false ∧ w'.frozen? ⟨g, 1, none⟩ = false ∧ w'.frozen? ⟨g, 2, none⟩ = false ∧ w'.frozen? ⟨g, 3, none⟩ = false ∧ w'.frozen? ⟨g, 4, none⟩ = false)) := Lib.hid fun w' x => by
   have hf : ∀ j, w'.frozen? ⟨g, j, none⟩ = false := fun j => by
    have h := (hin1.row.ext x).frozen j (by rw [HQ.out.2.2.2.2.2.2.2.1]; omega)
    rwa [at_own] at h
   exact ⟨⟨Ext.cell x r1, Ext.cell x r2, Ext.cell x r3, Ext.cell x r4, Ext.cell x r5⟩, hf 0, hf 1, hf 2, hf 3, hf 4⟩
  have hb21 := BytesAt.mod HQ.out.2.2.2.2.2.2.2.2.2.2.1 M1 HQ.out.2.2.2.2.2.2.2.2.2.2.2.1
  have H1 := Lib.hid (And.intro hin1 (And.intro B1 (And.intro M1 hb21)))
  clear hinw0 hin1 hc1' h51 r1 r2 r3 r4 r5 hb21 B1 M1 m1 s1 lb
  go_upto_region 6 with fail
  refine wp_region_planL [19] [(0, 0), (1, 0), (2, 0), (3, 0), (4, 0), (5, 0), (6, 0), (7, 0), (8, 0), (9, 0), (10, 0), (11, 0), (12, 0), (13, 0), (15, 0), (16, 0), (14, 1), (17, 0), (18, 0), (19, 2)] (fun w' => w'.cell? ⟨pq, 1, none⟩ = some (.slice (some ⟨g, 0, none⟩) (n + 1) cap) ∧ w'.cell? ⟨g5, 0, none⟩ = some (.int .i64 e.blk) ∧ w'.cell? ⟨g5, 1, none⟩ = some (.int .i64 e.at_) ∧ w'.cell? ⟨g5, 2, none⟩ = some V0 ∧ w'.cell? ⟨g5, 3, none⟩ = some (.int .i64 e.by_)) (by kernel_rfl) (by kernel_rfl) (by kernel_rfl) (fun _ d _ _ _ h => by cases d <;> exact h) (KQ.out _ (Mod.drew (Mod.refl _ _))) ?_
  simp only [planLL, getO]
  iterate 16 (refine planL_take (v := ?_) (by rfl) (fun wS hS => ?_) ?_; rotate_left; (focus ((try dsimp only at hS); go_simp; (try with_reducible rfl); done)); (try simp only [Act.put, List.setIfInBounds_toArray, List.set_cons_zero, List.set_cons_succ]))
  refine planL_call (fun K hK => ?_)
  go_simp
  go_at_call 122; refine (copy_bytes _ _ (tearEnt e).b (H1.out.2.2.2.ext (Mod.drew (Mod.refl _ _))) (by have := HTL.out; omega)).mono ?_; rintro en w2 ⟨v1, rfl, o1, y1, f1⟩; rw [List.length_map] at o1; (obtain ⟨la1, lc1, hv1, _⟩ := o1.sl.shape); subst hv1; have U2 : Ext w1 w2 := Mod.trans (Mod.drew (Mod.refl _ _)) y1; (obtain ⟨⟨a0, a1, a2, a3, a4⟩, ⟨b0, b1, b2, b3, b4⟩⟩ := KR.out _ U2)
  refine hK.out _ _ (KQ.out _ U2) ?_
  clear hK K
  (try simp only [Act.put, List.setIfInBounds_toArray, List.set_cons_zero, List.set_cons_succ])
  iterate 2 (refine planL_take (v := ?_) (by rfl) (fun wS hS => ?_) ?_; rotate_left; (focus ((try dsimp only at hS); go_simp; (try with_reducible rfl); done)); (try simp only [Act.put, List.setIfInBounds_toArray, List.set_cons_zero, List.set_cons_succ]))
  refine planL_late (fun K hK => ?_)
  go_simp
  refine hK.out _ _ ?_
  clear hK K
  (try simp only [Act.put, List.setIfInBounds_toArray, List.set_cons_zero, List.set_cons_succ])
  refine planL_nil ?_
  have HO := Lib.hid (And.intro o1 (And.intro f1 U2))
  clear o1 f1 U2 y1 a0 a1 a2 a3 a4 b0 b1 b2 b3 b4
  go_wp2_with fail
  go_ret
  obtain ⟨hin, hS, hm, hd, hb1, hfp1, hn, hl, ht, hat', hb2, hfp2, x0⟩ := HQ.out
  obtain ⟨hin1, B1, M1, hb21⟩ := H1.out
  obtain ⟨o1, f1, U2⟩ := HO.out
  simp only [hat']
  obtain ⟨P1, P2, P3⟩ := rq_tear hn ht hin1 U2 o1 (fun k hk => by have := f1 k hk; exact this)
  have hg : S g := (hS g).2 (.inr (.inl (by simp [Value.ownBlock])))
  refine ⟨rfl, _, ⟨pq, _, _, rfl, P1, fun q => Iff.rfl⟩, ((B1.ext U2).mod P2 (fun k hk h => hd g hg (h ▸ hk))), ((x0.mod _).trans' M1 (fun k h => .inl (.inr h))).trans' (U2.mod (fun q => q = g) |>.trans P2) (fun k h => .inl (.inl (h ▸ hg))), fun k hk => ?_⟩
  rcases hk with rfl | hk | ⟨i, hi, hk⟩
  · exact .inl ((hS _).2 (.inl rfl))
  · exact .inl ((hS _).2 (.inr (.inl hk)))
  · by_cases h0 : i = 0
    · subst h0
      rw [updV_same] at hk
      have h1 := P3 k hk
      have h2 := M1.size
      have h3 := x0.size
      exact .inr (by omega)
    · have e1 : updV V 0 (Value.slice la1 (tearEnt e).b.length lc1) i = V i := by simp [updV, h0]
      rw [e1] at hk
      exact .inl ((hS _).2 (.inr (.inr ⟨i, by simp [hn] at hi; omega, hk⟩)))
theorem rtear_any (w : World) (p q : Value) (room : Nat) (E : List Ent) (S : Nat → Prop) (h : RqAt w p room E S) (m : List Blk) (T : Nat → Prop) (hm : RefAt w q m T) (hd : ∀ k, S k → ¬ T k) :
 Calls Tryz.prog 119 #[p, q] w fun r w' => r = .returned (.bool (qtears E)) ∧ ∃ S', RqAt w' p room (qtear E) S' ∧ RefAt w' q (qtearM E m) T ∧ Mod (fun k => S k ∨ T k) w w' ∧ ∀ k, S' k → S k ∨ w.heap.size ≤ k := by
 cases E with
 | nil => exact (rtear_nil w p q room S h).mono fun r w' ⟨h1, h2⟩ => by subst h2; exact ⟨h1, S, h, hm, Mod.refl _ _, fun _ h => .inl h⟩
 | cons e E => exact rtear_cons w p q room e E S h m T hm hd
end Go.Proofs.YtbhocahmhmafmaaGreat
namespace Go.Proofs.YtbhocahmhmafmaaGreat
open Go.Ren Go.RowKit
set_option linter.unusedVariables false
theorem rq_of_list {w w1 : World} {pq room : Nat} {lv v : Value} {V V' : Nat → Value} {E : List Ent} (hin : RqIn w pq lv V room E) (x : Ext w w1) (li : RListIn w1 v V' E.length (fun i => ent E i)) (f1 : ∀ q, v.ownBlock = some q → w.heap.size ≤ q) (f2 : ∀ i q, i < E.length → (V' i).ownBlock = some q → w.heap.size ≤ q) :
 ∃ S', RqAt (w1.alloc (.cells #[.int .i64 (room : Int), v] 89)) (.pointer (some ⟨w1.heap.size, 0, none⟩)) room E S' ∧ ∀ k, S' k → w.heap.size ≤ k := by
 have xa : Ext w1 (w1.alloc (.cells #[.int .i64 (room : Int), v] 89)) := (Mod.refl _ _).alloc _
 refine ⟨RqFp w1.heap.size v V' E.length, ⟨_, v, V', rfl, ⟨heap_alloc_new _ _, li.row.ext xa, fun i hi => ((li.bs i hi).ext xa).sl, fun i k hi hk => ⟨?_, fun h => ?_⟩, hin.ok, hin.rng, hin.cnt⟩, fun k => Iff.rfl⟩, fun k hk => ?_⟩
 · have := (li.bs i hi).lt (fp_ob hk); omega
 · exact (li.bs i hi).apart li.row (by decide) (fp_ob hk) h
 · rcases hk with rfl | hk | ⟨i, hi, hk⟩
   · exact x.size
   · exact f1 k hk
   · exact f2 i k hi (fp_ob hk)
set_option maxRecDepth 100000 in
theorem rqcopy_any (w : World) (p : Value) (room : Nat) (E : List Ent) (S : Nat → Prop) (h : RqAt w p room E S) :
 Calls Tryz.prog 156 #[p] w fun r w' => ∃ g S', r = .returned (.pointer (some ⟨g, 0, none⟩)) ∧ RqAt w' (.pointer (some ⟨g, 0, none⟩)) room E S' ∧ Ext w w' ∧ ∀ k, S' k → w.heap.size ≤ k := by
 have HQ := Lib.hid h
 obtain ⟨pq, lv, V0, rfl, hin, hS⟩ := h.ex
 have KF : Hid (∀ w', Ext w w' → w'.cell? ⟨pq, 0, none⟩ = some (.int .i64 (room : Int))) := Lib.hid fun w' x => Ext.cell x hin.c0
 have HIN := Lib.hid hin
 clear h hin hS
 go_enter Tryz.func156, Tryz.ntmps156
 go_upto_region 1 with fail
 refine wp_region_plan [(0, true), (1, true), (2, true), (3, true), (4, true), (5, false), (6, true), (7, false), (8, true)] (fun w' => w'.cell? ⟨pq, 0, none⟩ = some (.int .i64 (room : Int))) (by kernel_rfl) (by kernel_rfl) (by kernel_rfl) (fun _ d _ _ _ h => by cases d <;> exact h) (KF.out _ (Mod.drew (Mod.refl _ _))) ?_
 simp only [planL, getO]
 iterate 5 (refine plan_take (v := ?_) (by rfl) (fun wS hS => ?_) ?_; rotate_left; (focus ((try dsimp only at hS); go_simp; (try with_reducible rfl); done)); (try simp only [Act.put, List.setIfInBounds_toArray, List.set_cons_zero, List.set_cons_succ]))
 refine plan_call (fun K hK => ?_)
 go_simp
 go_at_call 179; refine (rqlist_any _ _ room E S (HQ.out.ext (Mod.drew (Mod.refl _ _)))).mono ?_; rintro en w1 ⟨v, V, rfl, li, y1, f1, f2⟩; have U1 : Ext w w1 := Mod.trans (Mod.drew (Mod.refl _ _)) y1; (obtain ⟨la, lc, hv, _⟩ := li.row.sl.shape); subst hv
 refine hK.out _ _ (KF.out _ U1) ?_
 clear hK K
 (try simp only [Act.put, List.setIfInBounds_toArray, List.set_cons_zero, List.set_cons_succ])
 (refine plan_take (v := ?_) (by rfl) (fun wS hS => ?_) ?_; rotate_left; (focus ((try dsimp only at hS); go_simp; (try with_reducible rfl); done)); (try simp only [Act.put, List.setIfInBounds_toArray, List.set_cons_zero, List.set_cons_succ]))
 refine plan_call (fun K hK => ?_)
 go_simp
 skip
 refine hK.out _ _ (KF.out _ (U1.alloc _)) ?_
 clear hK K
 (try simp only [Act.put, List.setIfInBounds_toArray, List.set_cons_zero, List.set_cons_succ])
 (refine plan_take (v := ?_) (by rfl) (fun wS hS => ?_) ?_; rotate_left; (focus ((try dsimp only at hS); go_simp; (try with_reducible rfl); done)); (try simp only [Act.put, List.setIfInBounds_toArray, List.set_cons_zero, List.set_cons_succ]))
 refine plan_nil ?_
 have HL := Lib.hid (And.intro li (And.intro U1 (And.intro f1 (And.intro f2 y1))))
 clear li U1 f1 f2 y1
 go_wp2_with fail
 go_ret
 obtain ⟨li, U1, f1, f2, y1⟩ := HL.out
 obtain ⟨S', hq, hs⟩ := rq_of_list HIN.out U1 li (fun q hq => by have := f1 q hq; exact this) (fun i q hi hq => by have := f2 i q hi hq; exact this)
 exact ⟨_, S', rfl, hq, U1.alloc _, hs⟩
end Go.Proofs.YtbhocahmhmafmaaGreat
