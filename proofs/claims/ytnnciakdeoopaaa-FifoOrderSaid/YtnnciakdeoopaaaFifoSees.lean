/-
  FifoSees: the walk of renlaw19.FifoSees. No condition.
-/
import Derived.Test.YtnnciakdeoopaaaFifoParts
import Derived.Test.YtnnciakdeoopaaaFifoSeesLaw
import Derived.Test.YtnnciakdeoopaaaFifoTear
import Derived.Test.YtnnciakdeoopaaaFifoDrain
import Derived.Test.YtnnciakdeoopaaaBlkSame
namespace Go.Proofs.Ytnnciakdeoopaaa
open Go.Ren Go.RowKit
set_option linter.unusedVariables false

structure SeesRel (pq pb : Nat) (X : List UInt8) (Y : List Int) (S0 T : Nat → Prop) (wL wr : World) : Prop where
  ex : ∃ E m S, Sees E m X Y ∧ QueueAt wr (.pointer (some ⟨pq, 0, none⟩)) 64 E S ∧ BlocksAt wr (.pointer (some ⟨pb, 0, none⟩)) m T ∧ (∀ k, S k → S0 k)
  md : Mod (fun k => S0 k ∨ T k) wL wr

theorem BlocksAt.bok {w : World} {p : Value} {m : List Blk} {S : Nat → Prop} (h : BlocksAt w p m S) : BOk m := by
  obtain ⟨pb, lv, V, Y, _, hin, _⟩ := h.ex
  exact hin.ok

set_option maxRecDepth 100000 in
set_option maxHeartbeats 1600000 in
theorem sees_all (v vs : Value) (l : List Ent) (steps : List Int) (w : World) (hv : EntsAt w v l) (hs : IntsAt w vs steps) :
    Calls Try.prog 11 #[v, vs] w fun e w' => e = .returned (.bool true) ∧ Ext w w' := by
  obtain ⟨xs, hsl⟩ := hv.len
  have ll := hsl.run_len (P := Try.prog) IE.und 3
  have ls := hs.sl.run_len (P := Try.prog) II.und 3
  have HI := Lib.hid (hs.sl.run_idx (P := Try.prog) II.und II.size .i64)
  have HV := Lib.hid (And.intro hv hs)
  clear hsl hv hs
  obtain ⟨E0, hE0⟩ : ∃ E, E = fillE l := ⟨_, rfl⟩
  have hok : ∀ e ∈ E0, In64 e := by
    rw [hE0]
    exact fun e he => by
      obtain ⟨q1, q2, q3, q4, q5⟩ := fillE_ok HV.out.1.by64 e he
      exact ⟨q1, q2, q3, q5⟩
  obtain ⟨X, Y, hsee⟩ := sees_start hok
  have HE := Lib.hid (And.intro hE0 hsee)
  clear hE0 hsee hok
  by_cases z : l.length ≤ 64 ∧ steps.length ≤ 200
  case neg =>
    rcases (by omega : 64 < l.length ∨ (l.length ≤ 64 ∧ 200 < steps.length)) with z1 | ⟨z1, z2⟩
    case' inl => have y1 : (64 : Int) < (l.length : Int) := by omega
    case' inr =>
      have y1 : ¬ (64 : Int) < (l.length : Int) := by omega
      have y2 : (200 : Int) < (steps.length : Int) := by omega
    all_goals
      clear z
      go_enter Try.func11, Try.ntmps11
      go_wp2_with fail
      refine (first19_any _).mono ?_
      rintro e w1 ⟨rfl, x1⟩
      go_wp2_with fail
      refine (filled_any _ _ _ (HV.out.1.ext x1)).mono ?_
      rintro e w2 ⟨pq, S, rfl, Q2, x2, f2⟩
      go_wp2_with fail
      refine (new_any _).mono ?_
      rintro e w3 ⟨pb, S1, rfl, B1, x3, f1⟩
      go_wp2_with fail
      refine (first19_any _).mono ?_
      rintro e w4 ⟨rfl, x4⟩
      go_wp2_with fail
      go_ret
      exact ⟨rfl, ((x1.trans x2).trans x3).trans x4⟩
  obtain ⟨z1, z2⟩ := z
  have y1 : ¬ (64 : Int) < (l.length : Int) := by omega
  have y2 : ¬ (200 : Int) < (steps.length : Int) := by omega
  go_enter Try.func11, Try.ntmps11
  go_wp2_with fail
  refine (first19_any _).mono ?_
  rintro e w1 ⟨rfl, x1⟩
  go_wp2_with fail
  refine (filled_any _ _ _ (HV.out.1.ext x1)).mono ?_
  rintro e w2 ⟨pq, S, rfl, Q2, x2, f2⟩
  rw [← HE.out.1] at Q2
  go_wp2_with fail
  refine (new_any _).mono ?_
  rintro e w3 ⟨pb, T1, rfl, B3, x3, g3⟩
  have Q3 := Q2.ext x3
  go_wp2_with fail
  refine (make_any _ _ _ _ B3 _).mono ?_
  rintro e w4 ⟨rfl, T, B4, x4, g4⟩
  have hST : ∀ k, S k → ¬ T1 k := fun k h1 h2 => by have := Q2.lt h1; have := g3 k h2; omega
  have Q4 := Q3.mod x4 hST
  have hd : ∀ k, S k → ¬ T k := fun k h1 h2 => by
    have h3 := Q3.lt h1
    rcases g4 k h2 with h | h
    · exact hST k h1 h
    · omega
  have X4 : Ext w w4 := ((x1.trans x2).trans x3).trans' x4 (fun k h => .inr (Nat.le_trans (x1.trans x2).size (g3 k h)))
  have gS : ∀ k, S k → w.heap.size ≤ k := fun k h => Nat.le_trans x1.size (f2 k h)
  have gT : ∀ k, T k → w.heap.size ≤ k := fun k h => (g4 k h).elim (fun h => Nat.le_trans (x1.trans x2).size (g3 k h)) (fun h => Nat.le_trans ((x1.trans x2).trans x3).size h)
  have hsr := sees_read HE.out.2
  have bok := breadY_ok B4.bok (k := 0) (a := 0) (n := 64)
  have hY := sees_Yok HE.out.2 bok
  have hS := Lib.hid (And.intro hsr (And.intro hY (And.intro hd (And.intro gS (And.intro gT bok)))))
  have c0 : bcheck (bmake [] 64) 0 0 64 = 0 := hsr.1
  clear hsr hY hd gS gT Q3 Q2 B3 x1 x2 x3 x4 f2 g3 g4 hST bok
  go_wp2_with fail
  refine (read_any _ _ _ _ B4 _ _ _).mono ?_
  rintro e w5 ⟨v5, y5, rfl, o5, u5, x5, _, _⟩
  have B5 := B4.ext x5
  have Q5 := Q4.ext x5
  go_wp2_with fail
  refine (qover_any _ _ _ _ _ Q5 _ _ ⟨by decide, by decide⟩ _ _ _ _ o5.sl ⟨u5.sl, hS.out.2.2.2.2.2⟩ (by rw [hS.out.1.2.1]; decide) (by rw [hS.out.1.2.2.1]; decide)).mono ?_
  rintro e w6 ⟨v6, y6, rfl, o6, u6, x6, f6, f7⟩
  rw [hS.out.1.2.2.2.1] at o6
  rw [hS.out.1.2.2.2.2] at u6
  have R0 : SeesRel pq pb X Y S T w6 w6 := ⟨⟨E0, _, S, HE.out.2, Q5.ext x6, B5.ext x6, fun _ h => h⟩, Mod.refl _ _⟩
  have X6 := (X4.trans x5).trans x6
  have fo : ∀ k, v6.ownBlock = some k → ¬ (S k ∨ T k) := fun k hk h => by
    have := f6 k hk
    rcases h with h | h
    · have := Q5.lt h; omega
    · have := B5.lt h; omega
  have fu : ∀ k, y6.ownBlock = some k → ¬ (S k ∨ T k) := fun k hk h => by
    have := f7 k hk
    rcases h with h | h
    · have := Q5.lt h; omega
    · have := B5.lt h; omega
  have HO := Lib.hid (And.intro o6 (And.intro u6 (And.intro fo (And.intro fu X6))))
  clear o6 u6 fo fu X6 x5 x6 f6 f7 o5 u5 B5 Q5 B4 Q4 X4
  go_wp2_with fail
  go_loopw [12] (fun s12 wr => ∃ i : Nat, i ≤ steps.length ∧ s12 = .int .i64 (i : Int) ∧ SeesRel pq pb X Y S T w6 wr) (fun i _ => steps.length - (intOf i).toNat)
  case atStart => exact ⟨0, Nat.zero_le _, rfl, R0⟩
  case round =>
    obtain ⟨i, hi, rfl, hr⟩ := hrel
    clear R0
    have MX : Ext w wr := HO.out.2.2.2.2.trans' hr.md (fun k h => .inr (h.elim (hS.out.2.2.2.1 k) (hS.out.2.2.2.2.1 k)))
    obtain ⟨⟨E, m, S1, see, Q, B, hsub⟩, md⟩ := hr
    have hd1 : ∀ k, S1 k → ¬ T k := fun k h => hS.out.2.2.1 k (hsub k h)
    have HR := Lib.hid (And.intro see (And.intro hsub (And.intro md hd1)))
    clear see hsub md hd1
    by_cases hlt : i < steps.length
    · have hlt' : (i : Int) < (steps.length : Int) := by omega
      have i0 := HI.out i hlt
      simp only [Nat.mul_one] at i0
      have c1 := (HV.out.2.ext MX).cell hlt
      obtain ⟨x, hx⟩ : ∃ x, x = steps[i] := ⟨_, rfl⟩
      rw [← hx] at c1
      clear hx MX
      by_cases hm : x.tmod 2 = 0
      case' pos =>
        have hm' : (x.tmod 2 == 0) = true := by simpa using hm
        clear hm
        go_wp2_with fail
        refine (qflush_any _ _ _ _ _ _ Q _ _ B HR.out.2.2.2).mono ?_
        rintro e w7 ⟨rfl, S2, Q2, B2, M2, s2⟩
        have see2 := sees_flush HR.out.1
      case' neg =>
        have hm' : (x.tmod 2 == 0) = false := by simpa using hm
        clear hm
        go_wp2_with fail
        refine (qtear_any _ _ _ _ _ _ Q _ _ B HR.out.2.2.2).mono ?_
        rintro e w7 ⟨rfl, S2, Q2, B2, M2, s2⟩
        have see2 := sees_tear HR.out.1
      all_goals
        have bok2 := breadY_ok B2.bok (k := 0) (a := 0) (n := 64)
        have hsr := sees_read see2
        have md2 : Mod (fun k => S k ∨ T k) w6 w7 := HR.out.2.2.1.trans' M2 (fun k h => .inl (h.imp (HR.out.2.1 k) id))
        have c0 := hsr.1
        have H2 := Lib.hid (And.intro see2 (And.intro hsr (And.intro md2 (And.intro s2 bok2))))
        clear see2 hsr md2 s2 bok2 M2 Q B
        go_wp2_with fail
        refine (read_any _ _ _ _ B2 _ _ _).mono ?_
        rintro e w8 ⟨v8, y8, rfl, o8, u8, x8, -, -⟩
        go_wp2_with fail
        refine (qover_any _ _ _ _ _ (Q2.ext x8) _ _ ⟨by decide, by decide⟩ _ _ _ _ o8.sl ⟨u8.sl, H2.out.2.2.2.2⟩ (by rw [H2.out.2.1.2.1]; decide) (by rw [H2.out.2.1.2.2.1]; decide)).mono ?_
        rintro e w9 ⟨v9, y9, rfl, o9, u9, x9, -, -⟩
        rw [H2.out.2.1.2.2.2.1] at o9
        rw [H2.out.2.1.2.2.2.2] at u9
        have md9 := (H2.out.2.2.1.ext x8).ext x9
        go_wp2_with fail
        refine (bytes_any _ _ _ X X o9.sl (HO.out.1.mod md9 HO.out.2.2.1).sl).mono ?_
        rintro e w10 ⟨rfl, rfl⟩
        rw [beq_self_eq_true]
        go_wp2_with fail
        refine (ints_any _ _ _ Y Y ⟨u9.sl, hS.out.2.1⟩ ⟨(HO.out.2.1.mod md9 HO.out.2.2.2.1).sl, hS.out.2.1⟩).mono ?_
        rintro e w10 ⟨rfl, n, rfl⟩
        rw [beq_self_eq_true]
        have R2 : SeesRel pq pb X Y S T w6 (w9.drewN n) := ⟨⟨_, _, S2, H2.out.1, ((Q2.ext x8).ext x9).ext ((Mod.refl _ _).drewN n), ((B2.ext x8).ext x9).ext ((Mod.refl _ _).drewN n), fun k h => HR.out.2.1 k (H2.out.2.2.2.1 k h)⟩, md9.drewN n⟩
        clear o8 u8 x8 o9 u9 x9 md9 c0 Q2 B2
        go_wp2_with fail
        go_roundw
        case rel => exact ⟨i + 1, by omega, by go_num, R2⟩
        case measure => simp [intOf]; omega
    · have hlt' : ¬ (i : Int) < (steps.length : Int) := by omega
      go_wp2_with fail
      refine (qdrain_any _ _ _ _ _ _ Q _ _ B HR.out.2.2.2).mono ?_
      rintro e w7 ⟨rfl, S2, Q2, B2, M2, s2⟩
      have see2 := sees_drain HR.out.1
      have bok2 := breadY_ok B2.bok (k := 0) (a := 0) (n := 64)
      have md2 : Mod (fun k => S k ∨ T k) w6 w7 := HR.out.2.2.1.trans' M2 (fun k h => .inl (h.imp (HR.out.2.1 k) id))
      have hdn := sees_done see2
      have c0 := (sees_read see2).1
      have H2 := Lib.hid (And.intro see2 (And.intro md2 (And.intro s2 hdn)))
      have X7 : Ext w w7 := MX.trans' M2 (fun k h => .inr (h.elim (fun h => hS.out.2.2.2.1 k (HR.out.2.1 k h)) (hS.out.2.2.2.2.1 k)))
      clear see2 md2 s2 bok2 M2 Q B MX hdn
      go_wp2_with fail
      refine (read_any _ _ _ _ B2 _ _ _).mono ?_
      rintro e w8 ⟨v8, y8, rfl, o8, u8, x8, -, -⟩
      rw [H2.out.2.2.2.1] at o8
      rw [H2.out.2.2.2.2] at u8
      go_wp2_with fail
      refine (first19_any _).mono ?_
      rintro e w9 ⟨rfl, x9⟩
      have md9 := (H2.out.2.1.ext x8).ext x9
      have X9 := (X7.trans x8).trans x9
      go_wp2_with fail
      refine (bytes_any _ _ _ X X (o8.ext x9).sl (HO.out.1.mod md9 HO.out.2.2.1).sl).mono ?_
      rintro e w10 ⟨rfl, rfl⟩
      rw [beq_self_eq_true]
      go_wp2_with fail
      refine (ints_any _ _ _ Y Y ⟨(u8.ext x9).sl, hS.out.2.1⟩ ⟨(HO.out.2.1.mod md9 HO.out.2.2.2.1).sl, hS.out.2.1⟩).mono ?_
      rintro e w10 ⟨rfl, n, rfl⟩
      rw [beq_self_eq_true]
      have XN : Ext w7 (w9.drewN n) := (x8.trans x9).drewN n
      have Q3 := Q2.ext XN
      have X10 := X9.drewN n
      obtain ⟨w10, hw10⟩ : ∃ w10, w10 = w9.drewN n := ⟨_, rfl⟩
      rw [← hw10] at Q3 X10 ⊢
      clear o8 u8 x8 x9 md9 c0 Q2 B2 X7 X9 hw10 XN
      go_wp2_with fail
      refine (qlist_any _ _ _ _ _ Q3).mono ?_
      rintro e w11 ⟨v11, V11, rfl, l11, x11, -, -⟩
      have ll := l11.row.sl.run_len (P := Try.prog) IE.und 3
      simp only [List.length_nil, Int.natCast_zero] at ll
      have Q4 := Q3.ext x11
      have X11 := X10.trans x11
      clear l11 Q3 X10 x11
      go_wp2_with fail
      refine (qflush_nil _ _ _ _ _ Q4).mono ?_
      rintro e w12 ⟨rfl, rfl⟩
      go_wp2_with fail
      refine (qtear_nil _ _ _ _ _ Q4).mono ?_
      rintro e w12 ⟨rfl, rfl⟩
      go_wp2_with fail
      go_ret
      exact ⟨rfl, X11⟩
end Go.Proofs.Ytnnciakdeoopaaa
