/-
  The contract of (*renref18.Shared).Sync. No condition. The contracts of (*renref18.Shared).Flush, Tear, Make, Pending. No condition.
-/
import Derived.Test.YtbhocahmhmafmaaGreatPRsChanged
import Derived.Test.YtbhocahmhmafmaaGreatPShSync
import Derived.Test.YtbhocahmhmafmaaGreatPRqFlush
import Derived.Test.YtbhocahmhmafmaaGreatPRefAt
namespace Go.Ren
set_option linter.unusedVariables false
def syT (s : Shm) (fr : List Int) (k : Nat) : List (Int × Int) := ((List.range k).filter fun j : Nat => fr.contains (j : Int) && drnB (evn s.L.ev j)).map fun k : Nat => ((k : Int), (s.L.ev.length : Int))
theorem syT_all (s : Shm) (fr : List Int) : syT s fr s.L.ev.length = syP s fr := rfl
theorem syT_yes {s : Shm} {fr : List Int} {k : Nat} (h : (fr.contains (k : Int) && drnB (evn s.L.ev k)) = true) : syT s fr (k + 1) = syT s fr k ++ [((k : Int), (s.L.ev.length : Int))] := by
 unfold syT
 rw [List.range_succ, List.filter_append, List.map_append]; simp only [List.filter_cons, h, if_true, List.filter_nil, List.map_cons, List.map_nil]
theorem syT_no {s : Shm} {fr : List Int} {k : Nat} (h : (fr.contains (k : Int) && drnB (evn s.L.ev k)) = false) : syT s fr (k + 1) = syT s fr k := by
 unfold syT
 rw [List.range_succ, List.filter_append, List.map_append]; simp only [List.filter_cons, h, Bool.false_eq_true, if_false, List.filter_nil, List.map_nil, List.append_nil]
theorem syT_len (s : Shm) (fr : List Int) (k : Nat) : (syT s fr k).length ≤ k := by
 unfold syT
 rw [List.length_map]
 exact Nat.le_trans (List.length_filter_le _ _) (by simp)
theorem has_step {fr : List Int} {i : Nat} (hi : i < fr.length) (x : Int) : (fr.take (i + 1)).contains x = ((fr.take i).contains x || decide (fr[i] = x)) := by
 rw [List.take_succ_eq_append_getElem hi, Bool.eq_iff_iff]
 simp only [List.contains_iff_mem, List.mem_append, List.mem_singleton, Bool.or_eq_true, decide_eq_true_eq]
 exact or_congr Iff.rfl eq_comm
theorem prn_app_l {l P : List (Int × Int)} {i : Nat} (h : i < l.length) : prn (l ++ P) i = prn l i := by simp [prn, List.getElem?_append_left h]
theorem prn_app_r {l P : List (Int × Int)} {m : Nat} : prn (l ++ P) (l.length + m) = prn P m := by unfold prn; rw [List.getD_eq_getElem?_getD, List.getD_eq_getElem?_getD, List.getElem?_append_right (Nat.le_add_right _ _), Nat.add_sub_cancel_left]
end Go.Ren
namespace Go.Proofs.YtbhocahmhmafmaaGreat
open Go.Ren Go.RowKit
set_option linter.unusedVariables false
theorem pairs_flat (l P : List (Int × Int)) : ∀ m, flat 2 (l.length + m) (fun i j => prcell (prn (l ++ P) i) j) = flat 2 l.length (fun i j => prcell (prn l i) j) ++ flat 2 m (fun i j => prcell (prn P i) j)
 | 0 => by
  rw [show flat 2 0 (fun i j => prcell (prn P i) j) = [] from rfl, List.append_nil]
  exact flat_congr fun i j hi _ => by rw [prn_app_l hi]
 | m + 1 => by
  rw [← Nat.add_assoc, flat_succ _ _ _ (by decide), pairs_flat l P m, flat_succ 2 m _ (by decide), List.append_assoc, prn_app_r]
theorem pairs_one {l : List (Int × Int)} : ∀ x ∈ flat 2 l.length (fun i j => prcell (prn l i) j), x.oneCell' = true := by
 intro x hx
 unfold flat at hx
 obtain ⟨j, _, rfl⟩ := List.mem_map.1 hx
 show (prcell (prn l (j / 2)) (j % 2)).oneCell' = true
 unfold prcell
 split <;> rfl
def SyOwn (w : World) (v : Value) (l : List (Int × Int)) : Prop := Own w 112 2 v l.length (flat 2 l.length (fun i j => prcell (prn l i) j))
theorem sy_push {w : World} {v : Value} {l : List (Int × Int)} {p : Int × Int} (ol : Own w 112 2 v (l.length + 1) (flat 2 l.length (fun i j => prcell (prn l i) j) ++ [.int .i64 p.1, .int .i64 p.2])) : SyOwn w v (l ++ [p]) := by
 unfold SyOwn
 have e : flat 2 (l.length + 1) (fun i j => prcell (prn (l ++ [p]) i) j) = flat 2 l.length (fun i j => prcell (prn l i) j) ++ [.int .i64 p.1, .int .i64 p.2] := by
  rw [flat_succ _ _ _ (by decide)]
  congr 1
  · exact flat_congr fun i j hi _ => by rw [prn_snoc_lt hi]
  · simp [List.range, List.range.loop, prcell, prn_snoc]
 rw [List.length_append, List.length_singleton, e]
 exact ol
def RsSyPost (z : RsV) (s : Shm) (r : (Nat × Int) × Shm) (w : World) (e : Ending) (w' : World) : Prop := e = .returned (.tuple #[.int .i64 (r.1.1 : Int), .int .i64 r.1.2]) ∧ RsTo z s r.2 w w'
structure SyR (w : World) (s : Shm) (fr : List Int) (k : Nat) (wr : World) (lv : Value) : Prop where
 row : SyOwn wr lv (syT s fr k)
 x : Ext w wr
 f : ∀ k, lv.ownBlock = some k → w.heap.size ≤ k
theorem RsIn.pairs {w w9 : World} {z : RsV} {s : Shm} (h : RsIn w z s) {P : List (Int × Int)} (ok : ShOk (shPairs s P)) {pv9 : Value} (M9 : Mod (fun q => z.pv.ownBlock = some q) w w9)
 (ol : Own w9 112 2 pv9 (s.L.pr.length + P.length) (flat 2 s.L.pr.length (fun i j => prcell (prn s.L.pr i) j) ++ flat 2 P.length (fun i j => prcell (prn P i) j))) (fr : ∀ q, pv9.ownBlock = some q → z.pv.ownBlock = some q ∨ w.heap.size ≤ q) :
 RsTo z s (shPairs s P) w (w9.setCell ⟨z.g, 4, none⟩ pv9) := by
 have z9 := M9.blk h.box (fun k => h.log.prow.apart_obj h.box (by decide) k)
 have Ms : Mod (fun q => q = z.g) w9 (w9.setCell ⟨z.g, 4, none⟩ pv9) := Mod.setCell (F := fun q => q = z.g) (Mod.refl _ _) (.inl rfl) _
 have M1 : Mod (fun k => k = z.g ∨ z.pv.ownBlock = some k) w (w9.setCell ⟨z.g, 4, none⟩ pv9) := (M9.weak (fun q hq => .inl (.inr hq))).trans' Ms (fun q hq => .inl (.inl hq))
 have hnl : ∀ k, z.U k → ¬ (k = z.g ∨ z.pv.ownBlock = some k) := fun k hk hh => h.lu k (hh.elim .inl (fun h1 => .inr (.inr (.inr (.inl h1))))) hk
 have hlf : ∀ k, ({ z with pv := pv9 } : RsV).Lf s.L.ev.length k → z.Lf s.L.ev.length k ∨ w.heap.size ≤ k := fun k hk => by
  rcases hk with rfl | hk | hk | hk | ⟨i, hi, hk⟩
  · exact .inl (.inl rfl)
  · exact .inl (.inr (.inl hk))
  · exact .inl (.inr (.inr (.inl hk)))
  · exact (fr k hk).imp (fun h1 => .inr (.inr (.inr (.inl h1)))) id
  · exact .inl (.inr (.inr (.inr (.inr ⟨i, hi, hk⟩))))
 have lo : RLogOwn (w9.setCell ⟨z.g, 4, none⟩ pv9) z.hv pv9 z.V ⟨s.L.ev, s.L.pr ++ P⟩ := by
  have r9 := h.log.row.mod M9 (fun k hk hl => h.log.row.apart h.log.prow (by decide) hk hl)
  refine ⟨r9.mod Ms (fun q hq hl => by subst hl; exact r9.apart_obj z9 (by decide) hq), fun i hi => ?_, ?_⟩
  · have he := h.log.ev i hi
    have h2 : EvOwn w9 (evn s.L.ev i) (z.V i) := he.mod M9 (fun q hq hl => by
     rcases hq with h3 | h3 | h3
     · exact he.rd.apart h.log.prow (by decide) h3 hl
     · exact he.wr.apart h.log.prow (by decide) h3 hl
     · exact he.fr.apart h.log.prow (by decide) h3 hl)
    exact h2.mod Ms (fun q hq hl => by subst hl; exact h2.apart z9 (by decide) (by decide) hq)
  · show Own _ _ 2 pv9 (s.L.pr ++ P).length (flat 2 (s.L.pr ++ P).length _)
    rw [List.length_append, pairs_flat]
    exact ol.mod Ms (fun q hq hl => by subst hl; exact ol.apart_obj z9 (by decide) hq)
 refine ⟨{ z with pv := pv9 }, rfl, ⟨?_, h.blks.mod M1 hnl, h.noq, fun h0 => ?_, fun h0 i hi => ?_, lo, fun k hk hu => ?_, fun h0 i k hi hk => ⟨fun hl => ?_, (h.lq h0 i k hi hk).2⟩, h.qq, ok⟩, M1.weak (fun k hk => .inl (.inl (hk.elim .inl (fun h1 => .inr (.inr (.inr (.inl h1))))))), fun k hk => ?_⟩
 · simp [World.setCell, Array.getElem?_modify, z9]
   rfl
 · have q0 := h.qrow h0
   exact q0.mod M1 fun k hk hh => hh.elim (fun h1 => by subst h1; exact q0.apart_obj h.box (by decide) hk) (fun h1 => q0.apart h.log.prow (by decide) hk h1)
 · exact (h.qat h0 i hi).mod M1 fun k hk hh => (h.lq h0 i k hi hk).1 (hh.elim .inl (fun h1 => .inr (.inr (.inr (.inl h1)))))
 · rcases hlf k hk with h1 | h1
   · exact h.lu k h1 hu
   · have := h.blks.lt hu; omega
 · rcases hlf k hl with h1 | h1
   · exact (h.lq h0 i k hi hk).1 h1
   · have := (h.qat h0 i hi).lt hk; omega
 · rcases hk with hk | hk | hk
   · exact (hlf k hk).imp .inl id
   · exact .inl (.inr (.inl hk))
   · exact .inl (.inr (.inr hk))
set_option maxRecDepth 100000 in
set_option maxHeartbeats 3200000 in
theorem rssync_any (w : World) (z : RsV) (s : Shm) (h : RsIn w z s) (ag : Int) (v : Value) (fr : List Int) (hv : IntsAt w v fr) (far : fr.length * 8 ≤ 140737488355328) :
 Calls Tryz.prog 56 #[ptr z.g, .int .i64 ag, v] w (RsSyPost z s (shSync s ag fr) w) := by
 have HS := Lib.hid h
 obtain ⟨g, hg⟩ : ∃ g, g = z.g := ⟨_, rfl⟩
 rw [← hg]
 have HG := Lib.hid hg
 obtain ⟨-, -, c2, c3, -⟩ := h.at_cells hg
 have lq := (h.qrow (by have := h.ok.n1; omega)).sl.run_len (P := Tryz.prog) IQR.und 3
 obtain ⟨qv0, hqv⟩ : ∃ g, g = z.qv := ⟨_, rfl⟩
 obtain ⟨n, hnn⟩ : ∃ n, n = s.n := ⟨_, rfl⟩
 rw [← hqv] at c2 lq
 rw [← hnn] at lq
 have HN0 := Lib.hid hnn
 clear hg hqv hnn
 have HAG : Hid (agB s ag = decide (0 ≤ ag ∧ ag < (n : Int))) := Lib.hid (by rw [HN0.out]; rfl)
 by_cases hA : 0 ≤ ag ∧ ag < (n : Int)
 case neg =>
  have HR : Hid (shSync s ag fr = ((0, 1), s)) := Lib.hid (by
   have e : syE s ag fr = 1 := by unfold syE; rw [if_pos (by rw [HAG.out]; simpa using hA)]
   unfold shSync; rw [e, if_pos (by omega)])
  rw [HR.out]
  rcases (by omega : ag < 0 ∨ (¬ ag < 0 ∧ (n : Int) ≤ ag)) with z1 | ⟨z1, z2⟩
  all_goals
   clear hA h hv far c3
   go_enter Tryz.func56, Tryz.ntmps56
   go_wp2_with fail
   go_ret2
   exact ⟨rfl, HS.out.to (Mod.refl _ _)⟩
 case pos =>
  have HA : Hid (agB s ag = true) := Lib.hid (by rw [HAG.out]; simpa using hA)
  obtain ⟨i, rfl, hin⟩ : ∃ i : Nat, ag = (i : Int) ∧ i < s.n := agB_iff.1 HA.out
  have z1 : ¬ (i : Int) < 0 := by omega
  have z2 : ¬ (n : Int) ≤ (i : Int) := by omega
  have HI := Lib.hid hin
  have lf := hv.sl.run_len (P := Tryz.prog) II.und 3
  have IF := Lib.hid (hv.sl.run_idx (P := Tryz.prog) II.und II.size .i64)
  have HV := Lib.hid (And.intro hv far)
  obtain ⟨hq, hhq⟩ : ∃ g, g = z.hv := ⟨_, rfl⟩
  have l3 := h.log.row.sl.run_len (P := Tryz.prog) IRe.und 3
  have IE := Lib.hid (h.log.row.sl.run_idx (P := Tryz.prog) IRe.und IRe.size .i64)
  rw [← hhq] at l3 IE c3
  have HHQ := Lib.hid hhq
  have KC : Hid (∀ w', Ext w w' → w'.cell? ⟨g, 3, none⟩ = some hq) := Lib.hid fun w' x => Ext.cell x c3
  obtain ⟨N, hN⟩ : ∃ n, n = s.L.ev.length := ⟨_, rfl⟩
  rw [← hN] at l3 IE
  have HN := Lib.hid hN
  have hN1 : (N : Int) ≤ 1000 := by have := h.ok.ev; omega
  have hl44 : (fr.length : Int) ≤ 17592186044416 := by omega
  clear hA hin h hv far hhq hN
  go_enter Tryz.func56, Tryz.ntmps56
  go_wp2_with fail
  clear c2 c3 lq z1 z2
  go_loopw [9, 10] (fun s9 s10 wr => ∃ (k : Nat) (lv : Value), k ≤ N ∧ s10 = .int .i64 (k : Int) ∧ lv = s9 ∧ SyR w s fr k wr lv) (fun _ i _ => N - (intOf i).toNat)
  case atStart => exact ⟨0, _, Nat.zero_le _, rfl, rfl, ⟨Own.nil _ _ _, Mod.refl _ _, fun k hk => by cases hk⟩⟩
  case round =>
   obtain ⟨k, lv, hk, rfl, rfl, hrel⟩ := hrel
   have HR := Lib.hid hrel
   clear hrel
   by_cases hlt : k < N
   · have hlt' : (k : Int) < (N : Int) := by omega
     have j1 := IE.out k hlt
     have hkn' : k < s.L.ev.length := by rw [← HN.out]; exact hlt
     have c3 := KC.out _ HR.out.x
     obtain ⟨d0, d1, d2, d3, d4, d5, d6, d7, d8, d9⟩ := evrow_cells (HS.out.log.row.sl.ext (by decide) HR.out.x) hkn'
     rw [← HHQ.out] at d0 d1 d2 d3 d4 d5 d6 d7 d8 d9
     have hea := ((HS.out.log.ev k hkn').at_ (HS.out.ok.evI k hkn')).ext HR.out.x
     obtain ⟨e, he⟩ : ∃ e, e = evn s.L.ev k := ⟨_, rfl⟩
     obtain ⟨vs, hvs⟩ : ∃ v, v = z.V k := ⟨_, rfl⟩
     obtain ⟨A, hA⟩ : ∃ A, A = at_ hq (k * 10) := ⟨_, rfl⟩
     rw [← hA] at j1 d0 d1 d2 d3 d4 d5 d6 d7 d8 d9
     rw [← he] at d0 d1 d2 d3 d4 d5 d6 hea
     rw [← hvs] at d7 d8 d9 hea
     obtain ⟨k1, k2, k3, t1, t2, t3⟩ := ev_facts hea
     obtain ⟨w5, hw5⟩ : ∃ w5, w5 = wr.alloc (.cells (evArr e vs) 116) := ⟨_, rfl⟩
     obtain ⟨g5, hg5⟩ : ∃ g, g = wr.heap.size := ⟨_, rfl⟩
     have x5 : Ext wr w5 := by rw [hw5]; exact (Mod.refl _ _).alloc _
     have b5 : REvBox w5 g5 e vs := ⟨by rw [hw5, hg5]; exact heap_alloc_new _ _⟩
     have HW5 := Lib.hid (And.intro hw5 (And.intro hg5 (And.intro x5 b5)))
     have HEV := Lib.hid he
     obtain ⟨-, f1, f2, -⟩ := b5.cells
     clear hea he hvs hA hw5 hg5 x5 b5 hkn'
     go_upto_region 9 with fail
     rw [← HW5.out.1, ← HW5.out.2.1]
     clear d0 d1 d2 d3 d4 d5 d6 d7 d8 d9 t1 t2 t3 k1 k2 k3 j1 c3
     go_wp2_with fail
     go_loopw [12, 13] (fun s12 s13 wx => ∃ (j : Nat) (b : Bool), j ≤ fr.length ∧ s12 = .bool b ∧ s13 = .int .i64 (j : Int) ∧ w5 = wx ∧ b = (fr.take j).contains (k : Int)) (fun _ i _ => fr.length - (intOf i).toNat)
     case atStart => exact ⟨0, false, Nat.zero_le _, rfl, rfl, rfl, rfl⟩
     case round =>
      obtain ⟨j, b, hj, rfl, rfl, rfl, hb⟩ := hrel
      by_cases hlt2 : j < fr.length
      · have hlt2' : (j : Int) < (fr.length : Int) := by omega
        have i1 := IF.out j hlt2
        rw [Nat.mul_one] at i1
        have ck := (HV.out.1.ext (HR.out.x.trans HW5.out.2.2.1)).cell hlt2
        obtain ⟨x, hx⟩ : ∃ x, x = fr[j] := ⟨_, rfl⟩
        rw [← hx] at ck
        have HB := Lib.hid (And.intro hb hx)
        clear hb hx
        have HST : Hid ((fr.take (j + 1)).contains (k : Int) = (b || decide (x = (k : Int)))) := Lib.hid (by rw [has_step hlt2, ← HB.out.1, ← HB.out.2])
        cases b with
        | true =>
         go_wp2_with fail
         go_roundw
         case rel => exact ⟨j + 1, true, by omega, rfl, by go_num, (by first | rfl | trivial), by rw [HST.out]; rfl⟩
         case measure => simp [intOf]; omega
        | false =>
         go_wp2_with fail
         go_roundw
         case rel => exact ⟨j + 1, decide (x = (k : Int)), by omega, rfl, by go_num, (by first | rfl | trivial), by rw [HST.out, Bool.false_or]⟩
         case measure => simp [intOf]; omega
      · have hlt2' : ¬ (j : Int) < (fr.length : Int) := by omega
        obtain rfl : j = fr.length := by omega
        rw [List.take_length] at hb
        have HB := Lib.hid hb
        clear hb
        obtain ⟨kd, hkd⟩ : ∃ k, k = e.kind := ⟨_, rfl⟩
        obtain ⟨sq, hsq⟩ : ∃ k, k = e.seq := ⟨_, rfl⟩
        rw [← hkd] at f1
        rw [← hsq] at f2
        have HF : Hid ((fr.contains (k : Int) && drnB (evn s.L.ev k)) = (b && (decide (kd = 0) || sq))) := Lib.hid (by rw [← HB.out, ← HEV.out]; unfold drnB; rw [hkd, hsq])
        clear hkd hsq
        have NO : Hid ((b && (decide (kd = 0) || sq)) = false → SyR w s fr (k + 1) w5 lv) := Lib.hid fun hf => ⟨by rw [syT_no (HF.out.trans hf)]; unfold SyOwn; exact HR.out.row.ext HW5.out.2.2.1, HR.out.x.trans HW5.out.2.2.1, HR.out.f⟩
        have YES : Hid ((b && (decide (kd = 0) || sq)) = true → syT s fr (k + 1) = syT s fr k ++ [((k : Int), (N : Int))]) := Lib.hid fun hf => by rw [syT_yes (HF.out.trans hf), HN.out]
        cases b with
        | false =>
         go_wp2_with fail
         go_roundw
         case rel => exact ⟨k + 1, _, by omega, by go_num, rfl, NO.out rfl⟩
         case measure => simp [intOf]; omega
        | true =>
         have hfl : ((syT s fr k).length : Int) ≤ k := by have h1 := syT_len s fr k; omega
         have hown : Own w5 112 2 lv (syT s fr k).length (flat 2 (syT s fr k).length (fun i j => prcell (prn (syT s fr k) i) j)) := HR.out.row.ext HW5.out.2.2.1
         have HO := Lib.hid hown
         clear hown
         rcases (by cases sq <;> simp <;> omega : kd = 0 ∨ (kd ≠ 0 ∧ sq = true) ∨ (kd ≠ 0 ∧ sq = false)) with y1 | ⟨y1, rfl⟩ | ⟨y1, rfl⟩
         case inr.inr =>
          have y1' : (kd == 0) = false := by simpa using y1
          have HY := Lib.hid y1
          clear y1
          go_wp2_with fail
          go_roundw
          case rel => exact ⟨k + 1, _, by omega, by go_num, rfl, NO.out (by simp [HY.out])⟩
          case measure => simp [intOf]; omega
         all_goals
          have HY := Lib.hid y1
          first | subst y1 | (have y1' : (kd == 0) = false := by simpa using y1)
          try clear y1
          go_wp2_with (at_builtin; go_loud (refine wpList_app IP rfl (.tmp 69) (.tmp 73) rfl (HO.out.ext (Mod.alloc (Mod.refl _ _) _)) (built_sl (n := 1) (g := w5.heap.size) (e := 112) (cs := #[.int .i64 (k : Int), .int .i64 (N : Int)]) (by simp only [heap_alloc_if, if_true]) rfl (by simp only [maxLen]; omega)) (one2i _ _) (by simp [Act.eval]) (by simp [Act.eval]) (by omega) (by simp only [maxLen]; omega) ?_); intro pv9 w9 ol9 gr9 fr9 nn9; have M9 : Mod (fun q => lv.ownBlock = some q) w5 w9 := Mod.grown (Mod.alloc (Mod.refl _ _) _) gr9 (fun q h => .inl h); have F9 : ∀ k, pv9.ownBlock = some k → lv.ownBlock = some k ∨ w5.heap.size ≤ k := fun k hk => (fr9 k hk).imp id (fun h => by (try simp only [World.size_alloc] at h); omega); have H9 := Lib.hid (And.intro ol9 (And.intro F9 M9)); clear ol9 gr9 fr9 nn9 M9 F9)
          go_roundw
          case rel =>
           obtain ⟨ol9, F9, M9⟩ := H9.out
           have hz := (HR.out.x.trans HW5.out.2.2.1).size
           refine ⟨k + 1, _, by omega, by go_num, rfl, ⟨?_, (HR.out.x.trans HW5.out.2.2.1).trans' M9 (fun q hq => .inr (HR.out.f q hq)), fun q hq => (F9 q hq).elim (HR.out.f q) (fun h => by omega)⟩⟩
           rw [YES.out (by first | rfl | simp)]
           exact sy_push (p := ((k : Int), (N : Int))) ol9
          case measure => simp [intOf]; omega
   · have hlt' : ¬ (k : Int) < (N : Int) := by omega
     obtain rfl : k = N := by omega
     have HSW : Hid (RsIn wr z s) := Lib.hid (HS.out.ext HR.out.x)
     have c4 := (HSW.out.at_cells HG.out).2.2.2.2
     have l4 := HSW.out.log.prow.sl.run_len (P := Tryz.prog) IP.und 3
     have hrow : SyOwn wr lv (syP s fr) := by have h1 := HR.out.row; rw [HN.out, syT_all] at h1; exact h1
     have HO := Lib.hid hrow
     unfold SyOwn at hrow
     have l5 := hrow.sl.run_len (P := Tryz.prog) IP.und 3
     obtain ⟨pv, hpv⟩ : ∃ p, p = z.pv := ⟨_, rfl⟩
     rw [← hpv] at c4 l4
     obtain ⟨np, hnp⟩ : ∃ n, n = s.L.pr.length := ⟨_, rfl⟩
     rw [← hnp] at l4
     obtain ⟨nD, hnD⟩ : ∃ n, n = (syP s fr).length := ⟨_, rfl⟩
     rw [← hnD] at l5
     have hnp1 : np ≤ 1000 := by rw [hnp]; exact HS.out.ok.pr
     have hnd1 : nD ≤ 1000 := by have h1 := syT_len s fr s.L.ev.length; rw [syT_all, ← hnD] at h1; have := HN.out; omega
     have HNN : Hid (np = s.L.pr.length ∧ nD = (syP s fr).length ∧ nD = (syL s fr).length ∧ pv = z.pv) := Lib.hid ⟨hnp, hnD, by rw [hnD, syP_len], hpv⟩
     clear hpv hnp hnD hrow
     by_cases hf : 1000 ≤ k ∨ 1000 < np + nD
     · have HE : Hid (shSync s (i : Int) fr = ((0, 11), s)) := Lib.hid (by
        have e : syE s (i : Int) fr = 11 := by unfold syE; rw [if_neg (by rw [HA.out]; simp), if_pos (by have := HN.out; have := HNN.out; omega)]
        unfold shSync; rw [e, if_pos (by omega)])
       rcases (by omega : (1000 : Int) ≤ (k : Int) ∨ (¬ (1000 : Int) ≤ (k : Int) ∧ (1000 : Int) < (np : Int) + (nD : Int))) with y1 | ⟨y1, y2⟩
       all_goals
        clear hf
        go_wp2_with fail
        go_ret2
        show RsSyPost z s _ w _ _
        rw [HE.out]
        exact ⟨rfl, HS.out.to HR.out.x⟩
     · have y1 : ¬ (1000 : Int) ≤ (k : Int) := by omega
       have y2 : ¬ (1000 : Int) < (np : Int) + (nD : Int) := by omega
       have HE : Hid (shSync s (i : Int) fr = ((s.L.ev.length, 0), shPairs (shPush (shDrain s (i : Int)) (syEv (i : Int))) (syP s fr))) := Lib.hid (by
        have e : syE s (i : Int) fr = 0 := by unfold syE; rw [if_neg (by rw [HA.out]; simp), if_neg (by have := HN.out; have := HNN.out; omega)]
        unfold shSync; rw [e, if_neg (by simp)])
       have HOK := Lib.hid (syP_take_ok (fr := fr) HS.out.ok rfl HI.out (by have := HN.out; omega) (by have := HNN.out; omega))
       obtain ⟨qv, qi, m, hd⟩ := HSW.out.dr HG.out HI.out
       have HD := Lib.hid hd
       have ix := hd.ix
       obtain ⟨c2, cq, c1⟩ := hd.km wr (Mod.refl _ _)
       clear hf hd
       go_upto_region 18 with fail
       clear c4 l4 l5
       refine wp_region_plan [(0, true), (1, true), (2, true), (3, true), (4, true), (5, true), (6, true), (7, true), (8, true), (9, true), (10, true), (11, false)] (fun w' => w'.cell? ⟨g, 2, none⟩ = some qv ∧ w'.cell? (at_ qv i) = some qi ∧ w'.cell? ⟨g, 1, none⟩ = some m) (by kernel_rfl) (by kernel_rfl) (by kernel_rfl) (fun _ d _ _ _ h => by cases d <;> exact h) (⟨c2, cq, c1⟩) ?_
       simp only [planL, getO]
       iterate 11 (refine plan_take (v := ?_) (by rfl) (fun wS hS => ?_) ?_; rotate_left; (focus ((try dsimp only at hS); go_simp; (try with_reducible rfl); done)); (try simp only [Act.put, List.setIfInBounds_toArray, List.set_cons_zero, List.set_cons_succ]))
       refine plan_call (fun K hK => ?_)
       go_simp
       go_at_call 106; refine (rdrain_any _ qi m s.room (quB s (i : Int)) (z.SQ i) (HD.out.q _ (Mod.drew (Mod.refl _ _))) s.M z.U (HD.out.b _ (Mod.drew (Mod.refl _ _))) HD.out.ap).mono ?_; rintro en v1 ⟨rfl, S1, q1, b1, m1, sf1⟩; have M1 : Mod (fun k => z.SQ i k ∨ z.U k) wr v1 := Mod.trans (Mod.drew (Mod.refl _ _)) m1; have HE9 := Lib.hid (And.intro q1 (And.intro b1 (And.intro M1 sf1)))
       refine hK.out _ _ (HD.out.km _ M1) ?_
       clear hK K
       (try simp only [Act.put, List.setIfInBounds_toArray, List.set_cons_zero, List.set_cons_succ])
       refine plan_nil ?_
       have HP : Hid (RsTo z s (shDrain s (i : Int)) wr v1) := Lib.hid (by
        obtain ⟨q1, b1, M1, sf1⟩ := HE9.out
        have hok := HS.out.ok.drain HI.out
        unfold shDrain at hok ⊢
        rw [Int.toNat_natCast] at hok ⊢
        exact (HD.out.fin q1 b1 M1 (fun k hk => (sf1 k hk).imp id (fun h => by simpa only [World.size_drew] using h)) hok).to)
       obtain ⟨z4, g4, h4, m4, f4⟩ := HP.out.at_ HG.out
       have H4 := Lib.hid (And.intro g4 (And.intro h4 (And.intro m4 f4)))
       clear g4 h4 m4 f4 c1 c2 cq ix
       go_wp2_with fail
       refine (rslog_at (e := syEv (i : Int)) (v := ⟨.slice none 0 0, .slice none 0 0, .slice none 0 0⟩) H4.out.1 H4.out.2.1 ⟨Own.nil _ _ _, Own.nil _ _ _, Own.nil _ _ _⟩ (fun q hq => by rcases hq with hq | hq | hq <;> cases hq) HOK.out.1).mono ?_
       rintro e w5 P5
       obtain rfl := P5.1
       obtain ⟨z5, g5, h5, m5, f5⟩ := RsTo.at_ (g := g) (z := z) (w := wr) HG.out (RsTo.then HG.out H4.out.1 H4.out.2.2.1 H4.out.2.2.2 (RsIn.note_to H4.out.2.1 (Mod.refl _ _) (fun q hq => by rcases hq with hq | hq | hq <;> cases hq) P5))
       have cj := (h5.at_cells g5).2.2.2.2
       obtain ⟨pj, hpj⟩ : ∃ p, p = z5.pv := ⟨_, rfl⟩
       have hown : Own w5 112 2 z5.pv s.L.pr.length (flat 2 s.L.pr.length (fun i j => prcell (prn s.L.pr i) j)) := h5.log.prow
       have bx := h5.box
       rw [← g5, ← hpj] at bx
       rw [← hpj] at cj hown
       have nbx : ∀ k, pj.ownBlock = some k → k ≠ g := fun k hk e => by subst e; exact hown.apart_obj bx (by decide) hk
       have hsl : Sl w5 lv 2 nD (flat 2 (syP s fr).length (fun i j => prcell (prn (syP s fr) i) j)) := by
        have h1 := HO.out
        unfold SyOwn at h1
        rw [HNN.out.2.1]
        exact (h1.mod m5 (fun q hq hl => rfp_apart HS.out (HR.out.f q hq) hl)).sl
       rw [← HNN.out.1] at hown
       have H5 := Lib.hid (And.intro g5 (And.intro h5 (And.intro m5 f5)))
       have HB := Lib.hid (And.intro bx (And.intro nbx (And.intro hpj (And.intro hown hsl))))
       have hnpD : ((np + nD : Nat) : Int) ≤ 2000 := by omega
       clear P5 g5 h5 m5 f5 hpj hown bx nbx hsl
       go_wp2_with (at_builtin; go_loud (refine wpList_app IP rfl (.tmp 110) (.tmp 111) rfl HB.out.2.2.2.1 HB.out.2.2.2.2 pairs_one (by simp [Act.eval]) (by simp [Act.eval]) (by omega) (by simp only [maxLen]; omega) ?_); intro pv9 w9 ol9 gr9 fr9 nn9; obtain ⟨la9, lc9, hlv9, _⟩ := ol9.sl.shape; subst hlv9; have M9 : Mod (fun q => pj.ownBlock = some q) w5 w9 := Mod.grown (Mod.refl _ _) gr9 (fun q h => .inl h); have z5' := M9.blk HB.out.1 (fun h => HB.out.2.1 _ h rfl); have c9 : w9.cell? ⟨g, 4, none⟩ = some pj := (by simp [World.cell?, z5']); have f9 : w9.frozen? ⟨g, 4, none⟩ = false := (by simp [World.frozen?, z5']); have H9 := Lib.hid (And.intro ol9 (And.intro fr9 M9)); clear ol9 gr9 fr9 nn9 M9 z5')
       go_ret2
       show RsSyPost z s _ w _ _
       rw [HE.out]
       obtain ⟨ol9, fr9, M9⟩ := H9.out
       obtain ⟨g5, h5, m5, f5⟩ := H5.out
       rw [HB.out.2.2.1] at M9 fr9
       obtain ⟨px, hpx⟩ : ∃ p, p = Value.slice la9 (np + nD) lc9 := ⟨_, rfl⟩
       rw [← hpx] at ol9 fr9 ⊢
       rw [HNN.out.2.1, HNN.out.1] at ol9
       have T := RsIn.pairs h5 (P := syP s fr) (by have h1 := HOK.out.2 (syP s fr).length; rwa [List.take_length] at h1) M9 ol9 fr9
       rw [← g5] at T
       refine ⟨by rw [HN.out]; rfl, RsTo.trans rfl (HR.out.x.mod _) (fun k hk => .inl hk) (RsTo.then HG.out g5 m5 f5 T)⟩
end Go.Proofs.YtbhocahmhmafmaaGreat
namespace Go.Proofs.YtbhocahmhmafmaaGreat
open Go.Ren Go.RowKit
set_option linter.unusedVariables false
theorem agB_neg {s : Shm} {a : Int} (h : ¬ (0 ≤ a ∧ a < (s.n : Int))) : agB s a = false := by unfold agB; exact decide_eq_false h
theorem off_q {s : Shm} {a : Int} (h : agB s a = false) : shFl s a = (false, s) ∧ shTr s a = (false, s) ∧ shPend s a = 0 := by
 unfold shFl shTr shPend; rw [h]; simp
theorem fl_of {s : Shm} {i : Nat} (hk : ShOk s) (hi : i < s.n) : (shFl s (i : Int)).1 = (!(quB s (i : Int)).isEmpty) ∧ (shFl s (i : Int)).2 = shFlush s (i : Int) := by
 have hA : agB s (i : Int) = true := agB_iff.2 ⟨i, rfl, hi⟩
 unfold shFl
 rw [hA, Bool.true_and]
 cases hE : quB s (i : Int) with
 | nil =>
  refine ⟨rfl, ?_⟩
  have e3 := set_same hk hi
  rw [hE] at e3
  simp only [List.isEmpty_nil, Bool.not_true, Bool.false_eq_true, if_false]
  unfold shFlush
  rw [hE, Int.toNat_natCast]
  simp only [List.tail_nil, qflushM, e3]
 | cons x l => exact ⟨rfl, rfl⟩
theorem tr_of {s : Shm} {i : Nat} (hk : ShOk s) (hi : i < s.n) : (shTr s (i : Int)).1 = qtears (quB s (i : Int)) ∧ (shTr s (i : Int)).2 = shTear s (i : Int) := by
 have hA : agB s (i : Int) = true := agB_iff.2 ⟨i, rfl, hi⟩
 unfold shTr
 rw [hA, Bool.true_and]
 cases hE : qtears (quB s (i : Int)) with
 | false =>
  refine ⟨rfl, ?_⟩
  have e3 := set_same hk hi
  have e4 : qtear (quB s (i : Int)) = quB s (i : Int) ∧ qtearM (quB s (i : Int)) s.M = s.M := by
   cases hL : quB s (i : Int) with
   | nil => exact ⟨rfl, rfl⟩
   | cons x l =>
    rw [hL] at hE
    have ht : tearsE x = false := hE
    simp [qtear, qtearM, ht]
  simp only [Bool.false_eq_true, if_false]
  unfold shTear
  rw [Int.toNat_natCast, e4.1, e4.2, e3]
 | true => exact ⟨rfl, rfl⟩
def RsB (z : RsV) (s : Shm) (r : Bool × Shm) (w : World) (e : Ending) (w' : World) : Prop := e = .returned (.bool r.1) ∧ RsTo z s r.2 w w'
set_option maxRecDepth 100000 in
set_option maxHeartbeats 1600000 in
theorem rsflush_any (w : World) (z : RsV) (s : Shm) (h : RsIn w z s) (a : Int) : Calls Tryz.prog 57 #[ptr z.g, .int .i64 a] w (RsB z s (shFl s a) w) := by
 have HS := Lib.hid h
 obtain ⟨g, hg⟩ : ∃ g, g = z.g := ⟨_, rfl⟩
 rw [← hg]
 have HG := Lib.hid hg
 obtain ⟨-, -, c2, -, -⟩ := h.at_cells hg
 have lq := (h.qrow (by have := h.ok.n1; omega)).sl.run_len (P := Tryz.prog) IQR.und 3
 obtain ⟨n, hnn⟩ : ∃ n, n = s.n := ⟨_, rfl⟩
 rw [← hnn] at lq
 have HN := Lib.hid hnn
 clear hnn
 by_cases hA : 0 ≤ a ∧ a < (n : Int)
 case neg =>
  have HR : Hid (shFl s a = (false, s)) := Lib.hid (by obtain ⟨e1, e2, e3⟩ := off_q (agB_neg (s := s) (a := a) (by rw [← HN.out]; exact hA)); first | exact e1 | exact e2)
  rw [HR.out]
  obtain ⟨qv0, hqv⟩ : ∃ g, g = z.qv := ⟨_, rfl⟩
  rw [← hqv] at c2 lq
  clear hqv hg h
  rcases (by omega : a < 0 ∨ (0 ≤ a ∧ (n : Int) ≤ a)) with z1 | ⟨z1, z2⟩
  · have z1' : ¬ 0 ≤ a := by omega
    clear hA
    go_enter Tryz.func57, Tryz.ntmps57
    go_upto_region 1 with fail
    refine wp_region_plan [(0, true), (1, true), (2, true), (3, true), (4, true), (5, true), (6, true), (7, true), (8, true), (9, true), (10, true), (11, true), (12, true), (13, true), (14, true), (15, true), (16, true), (17, true), (18, true), (19, true), (20, true), (21, true), (22, true), (23, false), (24, true), (25, true)] (fun w' => w'.cell? ⟨g, 2, none⟩ = some qv0) (by kernel_rfl) (by kernel_rfl) (by kernel_rfl) (fun _ d _ _ _ h => by cases d <;> exact h) (c2) ?_
    simp only [planL, getO]
    iterate 3 (refine plan_take (v := ?_) (by rfl) (fun wS hS => ?_) ?_; rotate_left; (focus ((try dsimp only at hS); go_simp; (try with_reducible rfl); done)); (try simp only [Act.put, List.setIfInBounds_toArray, List.set_cons_zero, List.set_cons_succ]))
    iterate 7 (refine plan_skip (by rfl) ?_; (try simp only [Act.put, List.setIfInBounds_toArray, List.set_cons_zero, List.set_cons_succ]))
    iterate 2 (refine plan_take (v := ?_) (by rfl) (fun wS hS => ?_) ?_; rotate_left; (focus ((try dsimp only at hS); go_simp; (try with_reducible rfl); done)); (try simp only [Act.put, List.setIfInBounds_toArray, List.set_cons_zero, List.set_cons_succ]))
    iterate 12 (refine plan_skip (by rfl) ?_; (try simp only [Act.put, List.setIfInBounds_toArray, List.set_cons_zero, List.set_cons_succ]))
    iterate 2 (refine plan_take (v := ?_) (by rfl) (fun wS hS => ?_) ?_; rotate_left; (focus ((try dsimp only at hS); go_simp; (try with_reducible rfl); done)); (try simp only [Act.put, List.setIfInBounds_toArray, List.set_cons_zero, List.set_cons_succ]))
    refine plan_nil ?_
    go_wp2_with fail
    go_ret
    exact ⟨rfl, HS.out.to (Mod.drew (Mod.refl _ _))⟩
  · have z2' : ¬ a < (n : Int) := by omega
    clear hA
    go_enter Tryz.func57, Tryz.ntmps57
    go_upto_region 1 with fail
    refine wp_region_plan [(0, true), (1, true), (2, true), (3, true), (4, true), (5, true), (6, true), (7, true), (8, true), (9, true), (10, true), (11, true), (12, true), (13, true), (14, true), (15, true), (16, true), (17, true), (18, true), (19, true), (20, true), (21, true), (22, true), (23, false), (24, true), (25, true)] (fun w' => w'.cell? ⟨g, 2, none⟩ = some qv0) (by kernel_rfl) (by kernel_rfl) (by kernel_rfl) (fun _ d _ _ _ h => by cases d <;> exact h) (c2) ?_
    simp only [planL, getO]
    iterate 12 (refine plan_take (v := ?_) (by rfl) (fun wS hS => ?_) ?_; rotate_left; (focus ((try dsimp only at hS); go_simp; (try with_reducible rfl); done)); (try simp only [Act.put, List.setIfInBounds_toArray, List.set_cons_zero, List.set_cons_succ]))
    iterate 12 (refine plan_skip (by rfl) ?_; (try simp only [Act.put, List.setIfInBounds_toArray, List.set_cons_zero, List.set_cons_succ]))
    iterate 2 (refine plan_take (v := ?_) (by rfl) (fun wS hS => ?_) ?_; rotate_left; (focus ((try dsimp only at hS); go_simp; (try with_reducible rfl); done)); (try simp only [Act.put, List.setIfInBounds_toArray, List.set_cons_zero, List.set_cons_succ]))
    refine plan_nil ?_
    go_wp2_with fail
    go_ret
    exact ⟨rfl, HS.out.to (Mod.drew (Mod.refl _ _))⟩
 case pos =>
  obtain ⟨i, rfl⟩ := Int.eq_ofNat_of_zero_le hA.1
  have hin : i < s.n := by have := HN.out; omega
  have z1 : (0 : Int) ≤ (i : Int) := by omega
  have z2 : (i : Int) < (n : Int) := hA.2
  obtain ⟨qv, qi, m, hd⟩ := h.dr hg hin
  have HD := Lib.hid hd
  have HI := Lib.hid hin
  have ix := hd.ix
  rw [← hd.e.1] at lq
  obtain ⟨c2, cq, c1⟩ := hd.km w (Mod.refl _ _)
  clear h hg hd hin hA
  go_enter Tryz.func57, Tryz.ntmps57
  go_upto_region 1 with fail
  refine wp_region_plan [(0, true), (1, true), (2, true), (3, true), (4, true), (5, true), (6, true), (7, true), (8, true), (9, true), (10, true), (11, true), (12, true), (13, true), (14, true), (15, true), (16, true), (17, true), (18, true), (19, true), (20, true), (21, true), (22, true), (23, false), (24, true), (25, true)] (fun w' => w'.cell? ⟨g, 2, none⟩ = some qv ∧ w'.cell? (at_ qv i) = some qi ∧ w'.cell? ⟨g, 1, none⟩ = some m) (by kernel_rfl) (by kernel_rfl) (by kernel_rfl) (fun _ d _ _ _ h => by cases d <;> exact h) (⟨c2, cq, c1⟩) ?_
  simp only [planL, getO]
  iterate 23 (refine plan_take (v := ?_) (by rfl) (fun wS hS => ?_) ?_; rotate_left; (focus ((try dsimp only at hS); go_simp; (try with_reducible rfl); done)); (try simp only [Act.put, List.setIfInBounds_toArray, List.set_cons_zero, List.set_cons_succ]))
  refine plan_call (fun K hK => ?_)
  go_simp
  go_at_call 113; refine (rflush_any _ qi m s.room (quB s (i : Int)) (z.SQ i) (HD.out.q _ (Mod.drew (Mod.refl _ _))) s.M z.U (HD.out.b _ (Mod.drew (Mod.refl _ _))) HD.out.ap).mono ?_; rintro en v1 ⟨rfl, S1, q1, b1, m1, sf1⟩; have M1 : Mod (fun k => z.SQ i k ∨ z.U k) w v1 := Mod.trans (Mod.drew (Mod.refl _ _)) m1; have HE := Lib.hid (And.intro q1 (And.intro b1 (And.intro M1 sf1)))
  refine hK.out _ _ (HD.out.km _ M1) ?_
  clear hK K
  (try simp only [Act.put, List.setIfInBounds_toArray, List.set_cons_zero, List.set_cons_succ])
  iterate 2 (refine plan_take (v := ?_) (by rfl) (fun wS hS => ?_) ?_; rotate_left; (focus ((try dsimp only at hS); go_simp; (try with_reducible rfl); done)); (try simp only [Act.put, List.setIfInBounds_toArray, List.set_cons_zero, List.set_cons_succ]))
  refine plan_nil ?_
  go_wp2_with fail
  go_ret
  obtain ⟨q1, b1, M1, sf1⟩ := HE.out
  have hok := HS.out.ok.flush HI.out
  obtain ⟨e1, e2⟩ := fl_of HS.out.ok HI.out
  refine ⟨by rw [e1]; rfl, ?_⟩
  rw [e2]
  unfold shFlush at hok ⊢
  rw [Int.toNat_natCast] at hok ⊢
  exact (HD.out.fin q1 b1 M1 (fun k hk => (sf1 k hk).imp id (fun h => by simpa only [World.size_drew] using h)) hok).to
set_option maxRecDepth 100000 in
set_option maxHeartbeats 1600000 in
theorem rstear_any (w : World) (z : RsV) (s : Shm) (h : RsIn w z s) (a : Int) : Calls Tryz.prog 58 #[ptr z.g, .int .i64 a] w (RsB z s (shTr s a) w) := by
 have HS := Lib.hid h
 obtain ⟨g, hg⟩ : ∃ g, g = z.g := ⟨_, rfl⟩
 rw [← hg]
 have HG := Lib.hid hg
 obtain ⟨-, -, c2, -, -⟩ := h.at_cells hg
 have lq := (h.qrow (by have := h.ok.n1; omega)).sl.run_len (P := Tryz.prog) IQR.und 3
 obtain ⟨n, hnn⟩ : ∃ n, n = s.n := ⟨_, rfl⟩
 rw [← hnn] at lq
 have HN := Lib.hid hnn
 clear hnn
 by_cases hA : 0 ≤ a ∧ a < (n : Int)
 case neg =>
  have HR : Hid (shTr s a = (false, s)) := Lib.hid (by obtain ⟨e1, e2, e3⟩ := off_q (agB_neg (s := s) (a := a) (by rw [← HN.out]; exact hA)); first | exact e1 | exact e2)
  rw [HR.out]
  obtain ⟨qv0, hqv⟩ : ∃ g, g = z.qv := ⟨_, rfl⟩
  rw [← hqv] at c2 lq
  clear hqv hg h
  rcases (by omega : a < 0 ∨ (0 ≤ a ∧ (n : Int) ≤ a)) with z1 | ⟨z1, z2⟩
  · have z1' : ¬ 0 ≤ a := by omega
    clear hA
    go_enter Tryz.func58, Tryz.ntmps58
    go_upto_region 1 with fail
    refine wp_region_plan [(0, true), (1, true), (2, true), (3, true), (4, true), (5, true), (6, true), (7, true), (8, true), (9, true), (10, true), (11, true), (12, true), (13, true), (14, true), (15, true), (16, true), (17, true), (18, true), (19, true), (20, true), (21, true), (22, true), (23, false), (24, true), (25, true)] (fun w' => w'.cell? ⟨g, 2, none⟩ = some qv0) (by kernel_rfl) (by kernel_rfl) (by kernel_rfl) (fun _ d _ _ _ h => by cases d <;> exact h) (c2) ?_
    simp only [planL, getO]
    iterate 3 (refine plan_take (v := ?_) (by rfl) (fun wS hS => ?_) ?_; rotate_left; (focus ((try dsimp only at hS); go_simp; (try with_reducible rfl); done)); (try simp only [Act.put, List.setIfInBounds_toArray, List.set_cons_zero, List.set_cons_succ]))
    iterate 7 (refine plan_skip (by rfl) ?_; (try simp only [Act.put, List.setIfInBounds_toArray, List.set_cons_zero, List.set_cons_succ]))
    iterate 2 (refine plan_take (v := ?_) (by rfl) (fun wS hS => ?_) ?_; rotate_left; (focus ((try dsimp only at hS); go_simp; (try with_reducible rfl); done)); (try simp only [Act.put, List.setIfInBounds_toArray, List.set_cons_zero, List.set_cons_succ]))
    iterate 12 (refine plan_skip (by rfl) ?_; (try simp only [Act.put, List.setIfInBounds_toArray, List.set_cons_zero, List.set_cons_succ]))
    iterate 2 (refine plan_take (v := ?_) (by rfl) (fun wS hS => ?_) ?_; rotate_left; (focus ((try dsimp only at hS); go_simp; (try with_reducible rfl); done)); (try simp only [Act.put, List.setIfInBounds_toArray, List.set_cons_zero, List.set_cons_succ]))
    refine plan_nil ?_
    go_wp2_with fail
    go_ret
    exact ⟨rfl, HS.out.to (Mod.drew (Mod.refl _ _))⟩
  · have z2' : ¬ a < (n : Int) := by omega
    clear hA
    go_enter Tryz.func58, Tryz.ntmps58
    go_upto_region 1 with fail
    refine wp_region_plan [(0, true), (1, true), (2, true), (3, true), (4, true), (5, true), (6, true), (7, true), (8, true), (9, true), (10, true), (11, true), (12, true), (13, true), (14, true), (15, true), (16, true), (17, true), (18, true), (19, true), (20, true), (21, true), (22, true), (23, false), (24, true), (25, true)] (fun w' => w'.cell? ⟨g, 2, none⟩ = some qv0) (by kernel_rfl) (by kernel_rfl) (by kernel_rfl) (fun _ d _ _ _ h => by cases d <;> exact h) (c2) ?_
    simp only [planL, getO]
    iterate 12 (refine plan_take (v := ?_) (by rfl) (fun wS hS => ?_) ?_; rotate_left; (focus ((try dsimp only at hS); go_simp; (try with_reducible rfl); done)); (try simp only [Act.put, List.setIfInBounds_toArray, List.set_cons_zero, List.set_cons_succ]))
    iterate 12 (refine plan_skip (by rfl) ?_; (try simp only [Act.put, List.setIfInBounds_toArray, List.set_cons_zero, List.set_cons_succ]))
    iterate 2 (refine plan_take (v := ?_) (by rfl) (fun wS hS => ?_) ?_; rotate_left; (focus ((try dsimp only at hS); go_simp; (try with_reducible rfl); done)); (try simp only [Act.put, List.setIfInBounds_toArray, List.set_cons_zero, List.set_cons_succ]))
    refine plan_nil ?_
    go_wp2_with fail
    go_ret
    exact ⟨rfl, HS.out.to (Mod.drew (Mod.refl _ _))⟩
 case pos =>
  obtain ⟨i, rfl⟩ := Int.eq_ofNat_of_zero_le hA.1
  have hin : i < s.n := by have := HN.out; omega
  have z1 : (0 : Int) ≤ (i : Int) := by omega
  have z2 : (i : Int) < (n : Int) := hA.2
  obtain ⟨qv, qi, m, hd⟩ := h.dr hg hin
  have HD := Lib.hid hd
  have HI := Lib.hid hin
  have ix := hd.ix
  rw [← hd.e.1] at lq
  obtain ⟨c2, cq, c1⟩ := hd.km w (Mod.refl _ _)
  clear h hg hd hin hA
  go_enter Tryz.func58, Tryz.ntmps58
  go_upto_region 1 with fail
  refine wp_region_plan [(0, true), (1, true), (2, true), (3, true), (4, true), (5, true), (6, true), (7, true), (8, true), (9, true), (10, true), (11, true), (12, true), (13, true), (14, true), (15, true), (16, true), (17, true), (18, true), (19, true), (20, true), (21, true), (22, true), (23, false), (24, true), (25, true)] (fun w' => w'.cell? ⟨g, 2, none⟩ = some qv ∧ w'.cell? (at_ qv i) = some qi ∧ w'.cell? ⟨g, 1, none⟩ = some m) (by kernel_rfl) (by kernel_rfl) (by kernel_rfl) (fun _ d _ _ _ h => by cases d <;> exact h) (⟨c2, cq, c1⟩) ?_
  simp only [planL, getO]
  iterate 23 (refine plan_take (v := ?_) (by rfl) (fun wS hS => ?_) ?_; rotate_left; (focus ((try dsimp only at hS); go_simp; (try with_reducible rfl); done)); (try simp only [Act.put, List.setIfInBounds_toArray, List.set_cons_zero, List.set_cons_succ]))
  refine plan_call (fun K hK => ?_)
  go_simp
  go_at_call 119; refine (rtear_any _ qi m s.room (quB s (i : Int)) (z.SQ i) (HD.out.q _ (Mod.drew (Mod.refl _ _))) s.M z.U (HD.out.b _ (Mod.drew (Mod.refl _ _))) HD.out.ap).mono ?_; rintro en v1 ⟨rfl, S1, q1, b1, m1, sf1⟩; have M1 : Mod (fun k => z.SQ i k ∨ z.U k) w v1 := Mod.trans (Mod.drew (Mod.refl _ _)) m1; have HE := Lib.hid (And.intro q1 (And.intro b1 (And.intro M1 sf1)))
  refine hK.out _ _ (HD.out.km _ M1) ?_
  clear hK K
  (try simp only [Act.put, List.setIfInBounds_toArray, List.set_cons_zero, List.set_cons_succ])
  iterate 2 (refine plan_take (v := ?_) (by rfl) (fun wS hS => ?_) ?_; rotate_left; (focus ((try dsimp only at hS); go_simp; (try with_reducible rfl); done)); (try simp only [Act.put, List.setIfInBounds_toArray, List.set_cons_zero, List.set_cons_succ]))
  refine plan_nil ?_
  go_wp2_with fail
  go_ret
  obtain ⟨q1, b1, M1, sf1⟩ := HE.out
  have hok := HS.out.ok.tear HI.out
  obtain ⟨e1, e2⟩ := tr_of HS.out.ok HI.out
  refine ⟨by rw [e1]; rfl, ?_⟩
  rw [e2]
  unfold shTear at hok ⊢
  rw [Int.toNat_natCast] at hok ⊢
  exact (HD.out.fin q1 b1 M1 (fun k hk => (sf1 k hk).imp id (fun h => by simpa only [World.size_drew] using h)) hok).to
set_option maxRecDepth 100000 in
theorem rsmake_any (w : World) (z : RsV) (s : Shm) (h : RsIn w z s) (size : Int) : Calls Tryz.prog 59 #[ptr z.g, .int .i64 size] w (RsSyPost z s (shMake s size) w) := by
 have HS := Lib.hid h
 have c1 := h.cells.2.1
 obtain ⟨m, hm⟩ : ∃ m, m = z.m := ⟨_, rfl⟩
 rw [← hm] at c1
 have hb := h.blks
 rw [← hm] at hb
 have HM := Lib.hid (And.intro hm hb)
 clear h hm hb
 go_enter Tryz.func59, Tryz.ntmps59
 go_wp2_with fail
 refine (rmake_any _ m s.M z.U HM.out.2 size).mono ?_
 rintro e w1 ⟨rfl, S', b1, m1, f1⟩
 have H1 := Lib.hid (And.intro b1 (And.intro m1 f1))
 clear b1 m1 f1
 go_wp2_with fail
 go_ret2
 obtain ⟨b1, m1, f1⟩ := H1.out
 rw [HM.out.1] at b1
 refine ⟨?_, HS.out.setM_to b1 m1 f1 (HS.out.ok.make size)⟩
 show _ = Ending.returned (.tuple #[.int .i64 ((shMake s size).1.1 : Int), .int .i64 (shMake s size).1.2])
 rw [show ((shMake s size).1.1 : Int) = bmakeN s.M size from bmakeN_nn _ _]
 rfl
set_option maxRecDepth 100000 in
theorem rspend_any (w : World) (z : RsV) (s : Shm) (h : RsIn w z s) (a : Int) : Calls Tryz.prog 60 #[ptr z.g, .int .i64 a] w fun e w' => e = .returned (.int .i64 (shPend s a : Int)) ∧ w = w' := by
 have HS := Lib.hid h
 obtain ⟨g, hg⟩ : ∃ g, g = z.g := ⟨_, rfl⟩
 rw [← hg]
 obtain ⟨-, -, c2, -, -⟩ := h.at_cells hg
 have lq := (h.qrow (by have := h.ok.n1; omega)).sl.run_len (P := Tryz.prog) IQR.und 3
 obtain ⟨n, hnn⟩ : ∃ n, n = s.n := ⟨_, rfl⟩
 rw [← hnn] at lq
 have HN := Lib.hid hnn
 clear hnn
 by_cases hA : 0 ≤ a ∧ a < (n : Int)
 case neg =>
  have HR : Hid (shPend s a = 0) := Lib.hid (off_q (agB_neg (s := s) (a := a) (by rw [← HN.out]; exact hA))).2.2
  rw [HR.out]
  obtain ⟨qv0, hqv⟩ : ∃ g, g = z.qv := ⟨_, rfl⟩
  rw [← hqv] at c2 lq
  clear hqv hg h
  rcases (by omega : a < 0 ∨ (¬ a < 0 ∧ (n : Int) ≤ a)) with z1 | ⟨z1, z2⟩
  all_goals
   clear hA
   go_enter Tryz.func60, Tryz.ntmps60
   go_wp2_with fail
   go_ret
   exact ⟨rfl, rfl⟩
 case pos =>
  obtain ⟨i, rfl⟩ := Int.eq_ofNat_of_zero_le hA.1
  have hin : i < s.n := by have := HN.out; omega
  have z1 : ¬ (i : Int) < (0 : Int) := by omega
  have z2 : ¬ (n : Int) ≤ (i : Int) := by omega
  obtain ⟨qv, qi, m, hd⟩ := h.dr hg hin
  have ix := hd.ix
  rw [← hd.e.1] at lq
  clear c2
  obtain ⟨c2, cq, c1⟩ := hd.km w (Mod.refl _ _)
  have HR : Hid (shPend s (i : Int) = (quB s (i : Int)).length) := Lib.hid (by unfold shPend; rw [agB_iff.2 ⟨i, rfl, hin⟩, if_pos rfl])
  rw [HR.out]
  obtain ⟨pq, lv, V, rfl, hqi, -⟩ := (hd.q w (Mod.refl _ _)).ex
  have c5 : w.cell? ⟨pq, 1, none⟩ = some lv := by simp [World.cell?, hqi.box]
  have l5 := hqi.row.sl.run_len (P := Tryz.prog) IRQ.und 3
  clear h hg hd hin hA hqi
  go_enter Tryz.func60, Tryz.ntmps60
  go_wp2_with fail
  go_ret
  exact ⟨rfl, rfl⟩
end Go.Proofs.YtbhocahmhmafmaaGreat
