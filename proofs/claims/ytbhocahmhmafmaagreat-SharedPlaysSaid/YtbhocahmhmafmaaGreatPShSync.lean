/-
  The contract of (*shared.Shared).Sync. No condition.
-/
import Derived.Test.YtbhocahmhmafmaaGreatPShSyncLaw
import Derived.Test.YtbhocahmhmafmaaGreatPShNote
import Derived.Test.YtbhocahmhmafmaaGreatPShLog
import Derived.Test.YtbhocahmhmafmaaGreatPShAt
namespace Go.Ren
set_option linter.unusedVariables false
theorem froms_yes {s : Shm} {fr : List Int} {i : Nat} (hi : i < fr.length) (h : frOk s fr[i] = true) : froms s (fr.take (i + 1)) = froms s (fr.take i) ++ [fr[i]] := by
 unfold froms
 rw [List.take_succ_eq_append_getElem hi, List.filter_append]; simp [h]
theorem froms_no {s : Shm} {fr : List Int} {i : Nat} (hi : i < fr.length) (h : frOk s fr[i] = false) : froms s (fr.take (i + 1)) = froms s (fr.take i) := by
 unfold froms
 rw [List.take_succ_eq_append_getElem hi, List.filter_append]; simp [h]
def syD (s : Shm) (fr : List Int) : List Int := (syL s fr).map fun k : Nat => (k : Int)
theorem syD_len (s : Shm) (fr : List Int) : (syD s fr).length = (syL s fr).length := List.length_map _
theorem syP_D (s : Shm) (fr : List Int) : syP s fr = (syD s fr).map fun k => (k, (s.L.ev.length : Int)) := by unfold syP syD; rw [List.map_map]; rfl
theorem syP_len (s : Shm) (fr : List Int) : (syP s fr).length = (syL s fr).length := by unfold syP; rw [List.length_map]
theorem syP_step {s : Shm} {fr : List Int} {j : Nat} (hj : j < (syD s fr).length) : (syP s fr).take (j + 1) = (syP s fr).take j ++ [((syD s fr)[j], (s.L.ev.length : Int))] := by
 rw [syP_D, List.take_succ_eq_append_getElem (by simpa using hj)]; simp
theorem syL_le (s : Shm) (fr : List Int) : (syL s fr).length ≤ s.L.ev.length := by
 unfold syL
 have h := List.length_filter_le (fun k => fr.contains ((k : Nat) : Int) && drnB (evn s.L.ev k)) (List.range s.L.ev.length)
 rw [List.length_range] at h
 exact h
theorem pairs_pairs (s : Shm) (a b : List (Int × Int)) : shPairs (shPairs s a) b = shPairs s (a ++ b) := by unfold shPairs; simp
theorem shPairs_nil (s : Shm) : shPairs s [] = s := by unfold shPairs; simp
theorem syP_take_ok {s : Shm} {fr : List Int} {ag : Int} {i : Nat} (hk : ShOk s) (hi : ag = i) (hin : i < s.n) (h2 : s.L.ev.length < 1000) (h3 : s.L.pr.length + (syL s fr).length ≤ 1000) : ShOk (shPush (shDrain s ag) (syEv ag)) ∧ ∀ j, ShOk (shPairs (shPush (shDrain s ag) (syEv ag)) ((syP s fr).take j)) := by
 subst hi
 have h4 := (hk.drain hin).push (e := syEv (i : Int)) h2 ⟨by have := hk.n1; show I64 (i : Int); unfold I64; omega, i64_one rfl, i64_one rfl, i64_one rfl, i64_one rfl, fun x hx => by cases hx⟩ ⟨by simp [syEv], by simp [syEv], by simp [syEv]⟩
 refine ⟨h4, fun j => h4.pairs ?_ ?_⟩
 · show s.L.pr.length + ((syP s fr).take j).length ≤ 1000
   have h5 := syP_len s fr
   rw [List.length_take]; omega
 · intro p hp
   show prOk (s.L.ev ++ [syEv (i : Int)]).length p = true
   rw [List.length_append, List.length_singleton]
   exact syP_ok p (List.mem_of_mem_take hp)
theorem froms_len (s : Shm) (fr : List Int) : (froms s fr).length ≤ fr.length := List.length_filter_le _ _
end Go.Ren
namespace Go.Proofs.YtbhocahmhmafmaaGreat
open Go.Ren Go.RowKit
set_option linter.unusedVariables false
structure SyRel (w : World) (s : Shm) (fr : List Int) (i : Nat) (wr : World) (lv : Value) : Prop where
 row : Own wr 3 1 lv (froms s (fr.take i)).length ((froms s (fr.take i)).map iv)
 x : Ext w wr
 f : ∀ k, lv.ownBlock = some k → w.heap.size ≤ k
theorem ShIn.pair {w w9 : World} {z : ShV} {s : Shm} (h : ShIn w z s) {p : Int × Int} (ok : ShOk (shPairs s [p])) {pv9 : Value} (M9 : Mod (fun q => z.pv.ownBlock = some q) w w9)
 (ol : Own w9 112 2 pv9 (s.L.pr.length + 1) (flat 2 s.L.pr.length (fun i j => prcell (prn s.L.pr i) j) ++ [.int .i64 p.1, .int .i64 p.2])) (fr : ∀ q, pv9.ownBlock = some q → z.pv.ownBlock = some q ∨ w.heap.size ≤ q) :
 ShTo z s (shPairs s [p]) w (w9.setCell ⟨z.g, 4, none⟩ pv9) := by
 have z9 := M9.blk h.box (fun k => h.log.prow.apart_obj h.box (by decide) k)
 have Ms : Mod (fun q => q = z.g) w9 (w9.setCell ⟨z.g, 4, none⟩ pv9) := Mod.setCell (F := fun q => q = z.g) (Mod.refl _ _) (.inl rfl) _
 have M1 : Mod (fun k => k = z.g ∨ z.pv.ownBlock = some k) w (w9.setCell ⟨z.g, 4, none⟩ pv9) := (M9.weak (fun q hq => .inl (.inr hq))).trans' Ms (fun q hq => .inl (.inl hq))
 have hnl : ∀ k, z.U k → ¬ (k = z.g ∨ z.pv.ownBlock = some k) := fun k hk hh => h.lu k (hh.elim .inl (fun h1 => .inr (.inr (.inr (.inl h1))))) hk
 have hlf : ∀ k, ({ z with pv := pv9 } : ShV).Lf s.L.ev.length k → z.Lf s.L.ev.length k ∨ w.heap.size ≤ k := fun k hk => by
  rcases hk with rfl | hk | hk | hk | ⟨i, hi, hk⟩
  · exact .inl (.inl rfl)
  · exact .inl (.inr (.inl hk))
  · exact .inl (.inr (.inr (.inl hk)))
  · exact (fr k hk).imp (fun h1 => .inr (.inr (.inr (.inl h1)))) id
  · exact .inl (.inr (.inr (.inr (.inr ⟨i, hi, hk⟩))))
 have lo : LogOwn (w9.setCell ⟨z.g, 4, none⟩ pv9) z.hv pv9 z.V ⟨s.L.ev, s.L.pr ++ [p]⟩ := by
  have r9 := h.log.row.mod M9 (fun k hk hl => h.log.row.apart h.log.prow (by decide) hk hl)
  refine ⟨r9.mod Ms (fun q hq hl => by subst hl; exact r9.apart_obj z9 (by decide) hq), fun i hi => ?_, ?_⟩
  · have he := h.log.ev i hi
    have h2 : EvOwn w9 (evn s.L.ev i) (z.V i) := he.mod M9 (fun q hq hl => by
     rcases hq with h3 | h3 | h3
     · exact he.rd.apart h.log.prow (by decide) h3 hl
     · exact he.wr.apart h.log.prow (by decide) h3 hl
     · exact he.fr.apart h.log.prow (by decide) h3 hl)
    exact h2.mod Ms (fun q hq hl => by subst hl; exact h2.apart z9 (by decide) (by decide) hq)
  · have e : flat 2 (s.L.pr.length + 1) (fun i j => prcell (prn (s.L.pr ++ [p]) i) j) = flat 2 s.L.pr.length (fun i j => prcell (prn s.L.pr i) j) ++ [.int .i64 p.1, .int .i64 p.2] := by
     rw [flat_succ _ _ _ (by decide)]
     congr 1
     · exact flat_congr fun i j hi _ => by rw [prn_snoc_lt hi]
     · simp [List.range, List.range.loop, prcell, prn_snoc]
    show Own _ _ 2 pv9 (s.L.pr ++ [p]).length (flat 2 (s.L.pr ++ [p]).length _)
    rw [List.length_append, List.length_singleton, e]
    exact ol.mod Ms (fun q hq hl => by subst hl; exact ol.apart_obj z9 (by decide) hq)
 refine ⟨{ z with pv := pv9 }, rfl, ⟨?_, h.blks.mod M1 hnl, h.noq, fun h0 => ?_, fun h0 i hi => ?_, lo, fun k hk hu => ?_, fun h0 i k hi hk => ⟨fun hl => ?_, (h.lq h0 i k hi hk).2⟩, h.qq, ok⟩, M1.weak (fun k hk => .inl (.inl (hk.elim .inl (fun h1 => .inr (.inr (.inr (.inl h1))))))), fun k hk => ?_⟩
 · simp [World.setCell, Array.getElem?_modify, z9]
   rfl
 · have q0 := h.qrow h0
   exact q0.mod M1 fun k hk hh => hh.elim (fun h1 => by subst h1; exact q0.apart_obj h.box (by decide) hk) (fun h1 => q0.apart h.log.prow (by decide) hk h1)
 · exact (h.qat h0 i hi).mod M1 fun k hk hh => (h.lq h0 i k hi hk).1 (hh.elim .inl (fun h1 => .inr (.inr (.inr (.inl h1)))))
 · rcases hlf k hk with h1 | h1
   · exact h.lu k h1 hu
   · have := h.blks.lt hu; omega
 · rcases hlf k hl with h1 | h1
   · exact (h.lq h0 i k hi hk).1 h1
   · have := (h.qat h0 i hi).lt hk; omega
 · rcases hk with hk | hk | hk
   · exact (hlf k hk).imp .inl id
   · exact .inl (.inr (.inl hk))
   · exact .inl (.inr (.inr hk))
def SyncPost (z : ShV) (s : Shm) (r : (Nat × Int) × Shm) (w : World) (e : Ending) (w' : World) : Prop := e = .returned (.tuple #[.int .i64 (r.1.1 : Int), .int .i64 r.1.2]) ∧ ShTo z s r.2 w w'
set_option maxRecDepth 100000 in
set_option maxHeartbeats 3200000 in
theorem shsync_any (w : World) (z : ShV) (s : Shm) (h : ShIn w z s) (ag : Int) (v : Value) (fr : List Int) (hv : IntsAt w v fr) (far : fr.length * 8 ≤ 140737488355328) :
 Calls Tryz.prog 49 #[ptr z.g, .int .i64 ag, v] w (SyncPost z s (shSync s ag fr) w) := by
 have HS := Lib.hid h
 obtain ⟨g, hg⟩ : ∃ g, g = z.g := ⟨_, rfl⟩
 rw [← hg]
 have HG := Lib.hid hg
 clear hg
 cases hA : agB s ag with
 | false =>
  have HR : Hid (shSync s ag fr = ((0, 1), s)) := Lib.hid (by
   have e : syE s ag fr = 1 := by unfold syE; rw [if_pos hA]
   unfold shSync; rw [e, if_pos (by omega)])
  have HA := Lib.hid hA
  rw [HR.out]
  clear hA h hv far
  go_enter Tryz.func49, Tryz.ntmps49
  go_wp2_with fail
  refine (shagent_at HG.out HS.out ag).mono ?_
  rintro e w' ⟨rfl, rfl⟩
  rw [HA.out]
  go_wp2_with fail
  go_ret2
  exact ⟨rfl, HS.out.to (Mod.refl _ _)⟩
 | true =>
  have HA := Lib.hid hA
  obtain ⟨i0, hi0, hin0⟩ := agB_iff.1 hA
  have HI0 := Lib.hid (And.intro hi0 hin0)
  have lf := hv.sl.run_len (P := Tryz.prog) II.und 3
  have IF := Lib.hid (hv.sl.run_idx (P := Tryz.prog) II.und II.size .i64)
  have HV := Lib.hid (And.intro hv far)
  obtain ⟨hq, hhq⟩ : ∃ g, g = z.hv := ⟨_, rfl⟩
  have l3 := h.log.row.sl.run_len (P := Tryz.prog) IEv.und 3
  have IE := Lib.hid (h.log.row.sl.run_idx (P := Tryz.prog) IEv.und IEv.size .i64)
  have c3 := (h.at_cells HG.out).2.2.2.1
  rw [← hhq] at l3 IE c3
  have HHQ := Lib.hid hhq
  have KC : Hid (∀ w', Ext w w' → w'.cell? ⟨g, 3, none⟩ = some hq) := Lib.hid fun w' x => Ext.cell x c3
  obtain ⟨N, hN⟩ : ∃ n, n = s.L.ev.length := ⟨_, rfl⟩
  rw [← hN] at l3 IE
  have HN := Lib.hid hN
  have hN1 : (N : Int) ≤ 1000 := by have := h.ok.ev; omega
  clear hA hi0 hin0 h hv far hhq hN
  go_enter Tryz.func49, Tryz.ntmps49
  go_wp2_with fail
  refine (shagent_at HG.out HS.out ag).mono ?_
  rintro e w' ⟨rfl, rfl⟩
  rw [HA.out]
  go_wp2_with fail
  go_loopw [9, 11, 26] (fun s9 s11 s26 wr => ∃ (i : Nat) (lv : Value), i ≤ fr.length ∧ s26 = .int .i64 (i : Int) ∧ lv = s9 ∧ SyRel w s fr i wr lv) (fun _ _ i _ => fr.length - (intOf i).toNat)
  case atStart => exact ⟨0, _, Nat.zero_le _, rfl, rfl, ⟨Own.nil _ _ _, Mod.refl _ _, fun k hk => by cases hk⟩⟩
  case round =>
   obtain ⟨i, lv, hi, rfl, rfl, hrel⟩ := hrel
   have HR := Lib.hid hrel
   clear hrel c3
   by_cases hlt : i < fr.length
   · have hlt' : (i : Int) < (fr.length : Int) := by omega
     have i1 := IF.out i hlt
     rw [Nat.mul_one] at i1
     have ck := (HV.out.1.ext HR.out.x).cell hlt
     have c3 := KC.out _ HR.out.x
     obtain ⟨k, hk⟩ : ∃ k, k = fr[i] := ⟨_, rfl⟩
     rw [← hk] at ck
     have HK := Lib.hid hk
     clear hk
     have hl44 : (fr.length : Int) ≤ 17592186044416 := by have := HV.out.2; omega
     rcases (by omega : k < 0 ∨ (0 ≤ k ∧ (N : Int) ≤ k) ∨ (0 ≤ k ∧ k < (N : Int))) with z1 | ⟨z1, z2⟩ | ⟨z1, z2⟩
     case inl =>
      have z1' : ¬ 0 ≤ k := by omega
      have HF : Hid (frOk s fr[i] = false) := Lib.hid (by rw [← HK.out]; unfold frOk; rw [decide_eq_false (by omega), Bool.false_and])
      clear z1
      go_wp2_with fail
      go_roundw
      case rel => exact ⟨i + 1, _, by omega, by go_num, rfl, ⟨by rw [froms_no hlt HF.out]; exact HR.out.row, HR.out.x, HR.out.f⟩⟩
      case measure => simp [intOf]; omega
     case inr.inl =>
      have z2' : ¬ k < (N : Int) := by omega
      have HF : Hid (frOk s fr[i] = false) := Lib.hid (by rw [← HK.out]; unfold frOk; rw [decide_eq_false (by have := HN.out; omega), Bool.false_and])
      clear z2
      go_wp2_with fail
      go_roundw
      case rel => exact ⟨i + 1, _, by omega, by go_num, rfl, ⟨by rw [froms_no hlt HF.out]; exact HR.out.row, HR.out.x, HR.out.f⟩⟩
      case measure => simp [intOf]; omega
     case inr.inr =>
      obtain ⟨kn, rfl⟩ := Int.eq_ofNat_of_zero_le z1
      have hkn : kn < N := by omega
      have j1 := IE.out kn hkn
      have hkn' : kn < s.L.ev.length := by rw [← HN.out]; exact hkn
      obtain ⟨d0, d1, d2, d3, d4, d5, d6, d7, d8, d9⟩ := evrow_cells (HS.out.log.row.sl.ext (by decide) HR.out.x) hkn'
      rw [← HHQ.out] at d0 d1 d2 d3 d4 d5 d6 d7 d8 d9
      have hea := ((HS.out.log.ev kn hkn').at_ (HS.out.ok.evI kn hkn')).ext HR.out.x
      obtain ⟨e, he⟩ : ∃ e, e = evn s.L.ev kn := ⟨_, rfl⟩
      obtain ⟨vs, hvs⟩ : ∃ v, v = z.V kn := ⟨_, rfl⟩
      obtain ⟨A, hA⟩ : ∃ A, A = at_ hq (kn * 10) := ⟨_, rfl⟩
      rw [← hA] at j1 d0 d1 d2 d3 d4 d5 d6 d7 d8 d9
      rw [← he] at d0 d1 d2 d3 d4 d5 d6 hea
      rw [← hvs] at d7 d8 d9 hea
      have HEA := Lib.hid hea
      have HF : Hid (frOk s fr[i] = drnB e) := Lib.hid (by rw [← HK.out]; unfold frOk; rw [decide_eq_true (by have := HN.out; omega), Bool.true_and, Int.toNat_natCast, he])
      clear hea he hvs hA hkn hkn'
      go_wp2_with fail
      refine (shdrained_any _ e vs HEA.out).mono ?_
      rintro r w2 ⟨rfl, x2⟩
      cases hB : drnB e with
      | false =>
       have HB := Lib.hid hB
       have HX2 := Lib.hid x2
       clear hB x2 d0 d1 d2 d3 d4 d5 d6 d7 d8 d9 j1
       go_wp2_with fail
       go_roundw
       case rel => exact ⟨i + 1, _, by omega, by go_num, rfl, ⟨by rw [froms_no hlt (HF.out.trans HB.out)]; exact HR.out.row.ext HX2.out, HR.out.x.trans HX2.out, HR.out.f⟩⟩
       case measure => simp [intOf]; omega
      | true =>
       have HB := Lib.hid hB
       have HO := Lib.hid (HR.out.row.ext x2)
       have HX2 := Lib.hid x2
       have hfl : ((froms s (fr.take i)).length : Int) ≤ i := by have h1 := froms_len s (fr.take i); rw [List.length_take] at h1; omega
       have one1 : ∀ x ∈ [Value.int .i64 (kn : Int)], x.oneCell' = true := by intro x hx; rw [List.mem_singleton.1 hx]; rfl
       clear hB x2 d0 d1 d2 d3 d4 d5 d6 d7 d8 d9 j1
       go_wp2_with (at_builtin; refine wpList_app II rfl (.tmp 48) (.tmp 50) rfl (HO.out.ext ?_) (built_sl (n := 1) (g := w2.heap.size) (e := 3) (cs := #[.int .i64 (kn : Int)]) ?_ rfl (by simp only [maxLen]; omega)) one1 rfl rfl (by omega) (by simp only [maxLen]; omega) ?_; (repeat (first | exact Mod.refl _ _ | apply Mod.drew | apply Mod.alloc)); (rw [heap_alloc_if, if_pos rfl]); intro v' w' ho hgr hfr hnn; have M4 : Mod (fun q => lv.ownBlock = some q) w2 w' := Mod.grown (by repeat (first | exact Mod.refl _ _ | apply Mod.drew | apply Mod.alloc)) hgr (fun q h => .inl h); have F2 : ∀ k, v'.ownBlock = some k → lv.ownBlock = some k ∨ w2.heap.size ≤ k := fun k hk => (hfr k hk).imp id (fun h => by (try simp only [World.size_alloc] at h); omega); have HX := Lib.hid (And.intro M4 (And.intro ho F2)); clear M4 ho F2 hgr hfr hnn)
       go_roundw
       case rel =>
        obtain ⟨M4, ho, F2⟩ := HX.out
        have hz := HR.out.x.size
        have hz2 := HX2.out.size
        refine ⟨i + 1, _, by omega, by go_num, rfl, ⟨?_, (HR.out.x.trans HX2.out).trans' M4 (fun q hq => .inr (HR.out.f q hq)), fun q hq => (F2 q hq).elim (HR.out.f q) (fun h => by omega)⟩⟩
        rw [froms_yes hlt (HF.out.trans HB.out), ← HK.out, List.length_append, List.map_append]
        exact ho
       case measure => simp [intOf]; omega
   · have hlt' : ¬ (i : Int) < (fr.length : Int) := by omega
     obtain rfl : i = fr.length := by omega
     have hrow := HR.out.row
     rw [List.take_length] at hrow
     have HO := Lib.hid hrow
     have HFL : Hid ((froms s fr).length ≤ 17592186044416) := Lib.hid (by have h1 := froms_len s fr; have h2 := HV.out.2; omega)
     clear hrow
     go_wp2_with fail
     refine (shsort_any _ lv (froms s fr) HO.out HFL.out).mono ?_
     rintro r w2 ⟨rfl, o2, m2⟩
     have H2 := Lib.hid (And.intro o2 m2)
     clear o2 m2
     go_wp2_with fail
     refine (shcompact_any _ lv (sortI (froms s fr)) (by have h1 := H2.out.1; rwa [show (froms s fr).length = (sortI (froms s fr)).length from (List.length_mergeSort _).symm] at h1) (by rw [show (sortI (froms s fr)).length = (froms s fr).length from List.length_mergeSort _]; exact HFL.out)).mono ?_
     rintro r w3 ⟨lw, rfl, o3, m3, e3⟩
     rw [show Lib.compact (sortI (froms s fr)) = syD s fr from sync_list s fr] at o3
     have hx3 : Ext w w3 := (HR.out.x.trans' H2.out.2 (fun q hq => .inr (HR.out.f q hq))).trans' m3 (fun q hq => .inr (HR.out.f q hq))
     have hf3 : ∀ k, lw.ownBlock = some k → w.heap.size ≤ k := fun k hk => HR.out.f k (e3 ▸ hk)
     have hDL := syD_len s fr
     have hDN := syL_le s fr
     have lC := o3.sl.run_len (P := Tryz.prog) II.und 3
     have HI3 := Lib.hid (o3.sl.run_idx (P := Tryz.prog) II.und II.size .i64)
     have H3 := Lib.hid (And.intro o3 (And.intro hx3 hf3))
     have HS3 : Hid (ShIn w3 z s) := Lib.hid (HS.out.ext hx3)
     have c4 := (HS3.out.at_cells HG.out).2.2.2.2
     have l4 := HS3.out.log.prow.sl.run_len (P := Tryz.prog) IP.und 3
     obtain ⟨pv, hpv⟩ : ∃ p, p = z.pv := ⟨_, rfl⟩
     rw [← hpv] at c4 l4
     obtain ⟨np, hnp⟩ : ∃ n, n = s.L.pr.length := ⟨_, rfl⟩
     rw [← hnp] at l4
     obtain ⟨nD, hnD⟩ : ∃ n, n = (syD s fr).length := ⟨_, rfl⟩
     rw [← hnD] at lC HI3
     have hnp1 : np ≤ 1000 := by rw [hnp]; exact HS.out.ok.pr
     have hnd1 : nD ≤ 1000 := by have := HN.out; omega
     have HNN : Hid (np = s.L.pr.length ∧ nD = (syD s fr).length ∧ nD = (syL s fr).length) := Lib.hid ⟨hnp, hnD, by omega⟩
     clear o3 m3 e3 hx3 hf3 hDL hDN hpv hnp hnD
     go_wp2_with fail
     refine (shfull_at HG.out HS3.out).mono ?_
     rintro e w' ⟨rfl, rfl⟩
     by_cases hf : 1000 ≤ s.L.ev.length
     · have HE : Hid (shSync s ag fr = ((0, 11), s)) := Lib.hid (by
        have e : syE s ag fr = 11 := by unfold syE; rw [if_neg (by rw [HA.out]; simp), if_pos (.inl hf)]
        unfold shSync; rw [e, if_pos (by omega)])
       rw [decide_eq_true hf]
       clear hf
       go_wp2_with fail
       go_ret2
       show SyncPost z s _ w _ _
       rw [HE.out]
       exact ⟨rfl, HS.out.to H3.out.2.1⟩
     · rw [decide_eq_false hf]
       have HF := Lib.hid hf
       clear hf
       by_cases hg : 1000 < np + nD
       · have HE : Hid (shSync s ag fr = ((0, 11), s)) := Lib.hid (by
          have e : syE s ag fr = 11 := by unfold syE; rw [if_neg (by rw [HA.out]; simp), if_pos (.inr (by have := HNN.out; omega))]
          unfold shSync; rw [e, if_pos (by omega)])
         have hg' : (1000 : Int) < (np : Int) + (nD : Int) := by omega
         clear hg
         go_wp2_with fail
         go_ret2
         show SyncPost z s _ w _ _
         rw [HE.out]
         exact ⟨rfl, HS.out.to H3.out.2.1⟩
       · have HE : Hid (shSync s ag fr = ((s.L.ev.length, 0), shPairs (shPush (shDrain s ag) (syEv ag)) (syP s fr))) := Lib.hid (by
          have e : syE s ag fr = 0 := by unfold syE; rw [if_neg (by rw [HA.out]; simp), if_neg (by have := HNN.out; have := HF.out; omega)]
          unfold shSync; rw [e, if_neg (by simp)])
         have HOK := Lib.hid (syP_take_ok (fr := fr) HS.out.ok HI0.out.1 HI0.out.2 (by have := HF.out; omega) (by have := HNN.out; omega))
         have hg' : ¬ (1000 : Int) < (np : Int) + (nD : Int) := by omega
         have HGT := Lib.hid hg
         clear hg
         go_wp2_with fail
         refine (shdrain_at HG.out HS3.out ⟨i0, HI0.out⟩).mono ?_
         rintro e w4 ⟨rfl, P4⟩
         obtain ⟨z4, g4, h4, m4, f4⟩ := P4.at_ HG.out
         have H4 := Lib.hid (And.intro g4 (And.intro h4 (And.intro m4 f4)))
         clear P4 g4 h4 m4 f4
         go_wp2_with fail
         refine (shnote_at (e := syEv ag) (v := ⟨.slice none 0 0, .slice none 0 0, .slice none 0 0⟩) H4.out.1 H4.out.2.1 ⟨Own.nil _ _ _, Own.nil _ _ _, Own.nil _ _ _⟩ (fun q hq => by rcases hq with hq | hq | hq <;> cases hq) HOK.out.1).mono ?_
         rintro e w5 P5
         obtain rfl := P5.1
         obtain ⟨z5, g5, h5, m5, f5⟩ := ShTo.at_ (g := g) (z := z) (w := w3) HG.out (ShTo.then HG.out H4.out.1 H4.out.2.2.1 H4.out.2.2.2 (ShIn.note_to H4.out.2.1 (Mod.refl _ _) (fun q hq => by rcases hq with hq | hq | hq <;> cases hq) P5))
         have H5 := Lib.hid (And.intro g5 (And.intro h5 (And.intro m5 f5)))
         clear P5 g5 h5 m5 f5
         go_wp2_with fail
         go_loopw [13, 80] (fun s13 s80 wr => ∃ (j : Nat) (zj : ShV), j ≤ nD ∧ s80 = .int .i64 (j : Int) ∧ g = zj.g ∧ ShIn wr zj (shPairs (shPush (shDrain s ag) (syEv ag)) ((syP s fr).take j)) ∧ Mod (z.Fp s) w3 wr ∧ ∀ k, zj.Fp (shPairs (shPush (shDrain s ag) (syEv ag)) ((syP s fr).take j)) k → z.Fp s k ∨ w3.heap.size ≤ k) (fun _ j _ => nD - (intOf j).toNat)
         case atStart => exact ⟨0, z5, Nat.zero_le _, rfl, H5.out.1, by rw [List.take_zero, shPairs_nil]; exact H5.out.2.1, H5.out.2.2.1, by rw [List.take_zero, shPairs_nil]; exact H5.out.2.2.2⟩
         case round =>
          obtain ⟨j, zj, hj, rfl, gj, hin, mj, fj⟩ := hrel
          have HJ := Lib.hid (And.intro gj (And.intro hin (And.intro mj fj)))
          clear gj hin mj fj
          by_cases hlt2 : j < nD
          · have hlt2' : (j : Int) < (nD : Int) := by omega
            have i1 := HI3.out j hlt2
            rw [Nat.mul_one] at i1
            have hjD : j < (syD s fr).length := by have := HNN.out; omega
            obtain ⟨x, hx⟩ : ∃ x, x = (syD s fr)[j] := ⟨_, rfl⟩
            have ck : wr.cell? (at_ lw j) = some (.int .i64 x) := by
             have o4 := H3.out.1.mod HJ.out.2.2.1 (fun k hk hl => fp_apart HS.out (H3.out.2.2 k hk) hl)
             rw [hx]
             exact IntsAt.cell ⟨o4.sl, fun x hx => by
              unfold syD at hx
              rw [List.mem_map] at hx
              obtain ⟨q, hq, rfl⟩ := hx
              unfold syL at hq
              rw [List.mem_filter, List.mem_range] at hq
              have := HS.out.ok.ev
              unfold I64; omega⟩ hjD
            have HST : Hid ((syP s fr).take (j + 1) = (syP s fr).take j ++ [(x, (N : Int))]) := Lib.hid (by rw [hx, HN.out]; exact syP_step hjD)
            clear hx hjD
            have cj := (HJ.out.2.1.at_cells HJ.out.1).2.2.2.2
            obtain ⟨pj, hpj⟩ : ∃ p, p = zj.pv := ⟨_, rfl⟩
            have hown := HJ.out.2.1.log.prow
            obtain ⟨PL, hPL⟩ : ∃ l, l = (shPairs (shPush (shDrain s ag) (syEv ag)) ((syP s fr).take j)).L.pr := ⟨_, rfl⟩
            have hPn : PL.length ≤ 1000 := by rw [hPL]; exact HJ.out.2.1.ok.pr
            rw [← hpj] at cj
            rw [← hPL, ← hpj] at hown
            have HP := Lib.hid (And.intro hPL hpj)
            clear hPL hpj
            have bx := HJ.out.2.1.box
            rw [← HJ.out.1, ← HP.out.2] at bx
            have nbx : ∀ k, pj.ownBlock = some k → k ≠ g := fun k hk e => by subst e; exact hown.apart_obj bx (by decide) hk
            have HB := Lib.hid (And.intro bx nbx)
            have HOW := Lib.hid hown
            clear hown bx nbx
            go_wp2_with (at_builtin; go_loud (refine wpList_app IP rfl (.tmp 89) (.tmp 93) rfl (HOW.out.ext (Mod.alloc (Mod.refl _ _) _)) (built_sl (n := 1) (g := wr.heap.size) (e := 112) (cs := #[.int .i64 x, .int .i64 (N : Int)]) (by simp only [heap_alloc_if, if_true]) rfl (by simp only [maxLen]; omega)) (one2i _ _) (by simp [Act.eval]) (by simp [Act.eval]) (by omega) (by simp only [maxLen]; omega) ?_); intro pv9 w9 ol9 gr9 fr9 nn9; obtain ⟨la9, lc9, hlv9, _⟩ := ol9.sl.shape; subst hlv9; have M9 : Mod (fun q => pj.ownBlock = some q) wr w9 := Mod.grown (Mod.alloc (Mod.refl _ _) _) gr9 (fun q h => .inl h); have z5 := M9.blk HB.out.1 (fun h => HB.out.2 _ h rfl); have c9 : w9.cell? ⟨g, 4, none⟩ = some pj := (by simp [World.cell?, z5]); have f9 : w9.frozen? ⟨g, 4, none⟩ = false := (by simp [World.frozen?, z5]); have H9 := Lib.hid (And.intro ol9 (And.intro fr9 M9)); clear ol9 gr9 fr9 nn9 M9 z5)
            go_roundw
            case rel =>
             obtain ⟨ol9, fr9, M9⟩ := H9.out
             obtain ⟨gj, hin, mj, fj⟩ := HJ.out
             rw [HP.out.2] at M9 fr9
             have hsz : w9.heap.size = w9.heap.size := rfl
             have hTo := ShIn.pair hin (p := (x, (N : Int))) (by rw [pairs_pairs, ← HST.out]; exact HOK.out.2 (j + 1)) M9 (pv9 := .slice la9 (PL.length + 1) lc9) (by rw [← HP.out.1]; exact ol9) (fun q hq => (fr9 q hq).imp id (fun h => by simp only [World.size_alloc] at h; omega))
             rw [pairs_pairs, ← HST.out, ← gj] at hTo
             obtain ⟨z9, g9, h9, m9, f9⟩ := hTo
             exact ⟨j + 1, z9, by omega, by go_num, gj.trans g9.symm, h9, mj.trans' m9 fj, fun k hk => (f9 k hk).elim (fj k) (fun h => .inr (Nat.le_trans mj.size h))⟩
            case measure => simp [intOf]; omega
          · have hlt2' : ¬ (j : Int) < (nD : Int) := by omega
            obtain rfl : j = nD := by omega
            go_wp2_with fail
            go_ret2
            show SyncPost z s _ w _ _
            rw [HE.out]
            obtain ⟨gj, hin, mj, fj⟩ := HJ.out
            rw [List.take_of_length_le (by rw [syP_len]; have := HNN.out; omega)] at hin fj
            exact ⟨by rw [HN.out]; rfl, zj, gj.symm.trans HG.out, hin, H3.out.2.1.mod _ |>.trans mj, fun k hk => (fj k hk).imp id (fun h => Nat.le_trans H3.out.2.1.size h)⟩
end Go.Proofs.YtbhocahmhmafmaaGreat
