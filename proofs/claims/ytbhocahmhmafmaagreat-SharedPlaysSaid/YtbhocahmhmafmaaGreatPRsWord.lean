/-
  Where a log of the document's memory leads; what a call on a buffer meets. No condition. The contract of (*renref18.Shared).Load. No condition. The contracts of renref3.Bytes4, Mask, Change. No condition. The contract of (*renref18.Shared).Store. No condition.
-/
import Derived.Test.YtbhocahmhmafmaaGreatPRsAt
import Derived.Test.YtbhocahmhmafmaaGreatPShNote
import Derived.Test.YtbhocahmhmafmaaGreatPRqFlush
import Derived.Test.YtbhocahmhmafmaaGreatPRvWord
import Derived.Test.YtbhocahmhmafmaaGreatPElemBytes
import Derived.Test.YtbhocahmhmafmaaGreatPRqAt
namespace Go.Proofs.YtbhocahmhmafmaaGreat
open Go.Ren Go.RowKit
set_option linter.unusedVariables false
theorem RsIn.note_fp {w w1 w' : World} {z : RsV} {s : Shm} {e : Ev} {v : Vs} {hv' : Value} (h : RsIn w z s) (x : Ext w w1) (hv : ∀ k, EvFp v k → w.heap.size ≤ k) (m1 : Mod (fun k => k = z.g ∨ z.hv.ownBlock = some k) w1 w') (f1 : ∀ k, hv'.ownBlock = some k → z.hv.ownBlock = some k ∨ w1.heap.size ≤ k) :
 Mod (z.Fp s) w w' ∧ ∀ k, ({ z with hv := hv', V := evUpd z.V s.L.ev.length v } : RsV).Fp (shPush s e) k → z.Fp s k ∨ w.heap.size ≤ k := by
 refine ⟨(x.mod (z.Fp s)).trans' m1 (fun k hk => .inl (.inl (hk.elim .inl (fun h2 => .inr (.inr (.inl h2)))))), fun k hk => ?_⟩
 rcases hk with (hk | hk | hk | hk | ⟨i, hi, hk⟩) | hk | hk
 · exact .inl (.inl (.inl hk))
 · exact .inl (.inl (.inr (.inl hk)))
 · rcases f1 k hk with h2 | h2
   · exact .inl (.inl (.inr (.inr (.inl h2))))
   · exact .inr (Nat.le_trans x.size h2)
 · exact .inl (.inl (.inr (.inr (.inr (.inl hk)))))
 · have hi' : i < s.L.ev.length + 1 := by have : i < (s.L.ev ++ [e]).length := hi; simpa using this
   by_cases e0 : i = s.L.ev.length
   · have e2 : evUpd z.V s.L.ev.length v i = v := by simp [evUpd, e0]
     have hk' : EvFp (evUpd z.V s.L.ev.length v i) k := hk
     rw [e2] at hk'
     exact .inr (hv k hk')
   · have e2 : evUpd z.V s.L.ev.length v i = z.V i := by simp [evUpd, e0]
     have hk' : EvFp (evUpd z.V s.L.ev.length v i) k := hk
     rw [e2] at hk'
     exact .inl (.inl (.inr (.inr (.inr (.inr ⟨i, by omega, hk'⟩)))))
 · exact .inl (.inr (.inl hk))
 · exact .inl (.inr (.inr hk))
theorem RsIn.note_to {w w1 w' : World} {z : RsV} {s : Shm} {e : Ev} {v : Vs} {r : Ending} (h : RsIn w z s) (x : Ext w w1) (hv : ∀ k, EvFp v k → w.heap.size ≤ k) (P : RsNotePost z s e v w1 r w') : RsTo z s (shPush s e) w w' := by
 obtain ⟨_, hv', h1, m1, f1⟩ := P
 obtain ⟨M, F⟩ := h.note_fp (e := e) x hv m1 f1
 exact ⟨{ z with hv := hv', V := evUpd z.V s.L.ev.length v }, rfl, h1, M, F⟩
theorem RsQ.fp {w w' : World} {z : RsV} {s s' : Shm} {SQ' : Nat → Nat → Prop} (hn : s'.n = s.n) (hr : s'.room = s.room) (hl : s'.L = s.L) (m1 : Mod (fun k => z.U k ∨ (0 < s.n ∧ ∃ i, i < s.n ∧ z.SQ i k)) w w') (f1 : ∀ i k, i < s.n → SQ' i k → z.SQ i k ∨ w.heap.size ≤ k) :
 Mod (z.Fp s) w w' ∧ ∀ k, ({ z with SQ := SQ' } : RsV).Fp s' k → z.Fp s k ∨ w.heap.size ≤ k := by
 refine ⟨m1.weak (fun k hk => .inl (.inr (hk.imp id id))), fun k hk => ?_⟩
 rcases hk with hk | hk | ⟨h0, i, hi, hk⟩
 · have hk' : z.Lf s'.L.ev.length k := hk
   rw [hl] at hk'
   exact .inl (.inl hk')
 · exact .inl (.inr (.inl hk))
 · rw [hn] at hi
   rw [hn] at h0
   exact (f1 i k hi hk).imp (fun h2 => .inr (.inr ⟨h0, i, hi, h2⟩)) id
theorem rnote_own {w w' : World} {z : RsV} {s : Shm} {e : Ev} {v : Vs} {r : Ending} (P : RsNotePost z s e v w r w') : EvOwn w' e v := by
 obtain ⟨_, hv', h1, _, _⟩ := P
 have h2 := h1.log.ev s.L.ev.length (by show _ < (s.L.ev ++ [e]).length; simp)
 have e1 : evn (shPush s e).L.ev s.L.ev.length = e := evn_at
 have e2 : evUpd z.V s.L.ev.length v s.L.ev.length = v := by simp [evUpd]
 rw [e1] at h2
 have h3 : EvOwn w' e (evUpd z.V s.L.ev.length v s.L.ev.length) := h2
 rwa [e2] at h3
theorem rsasks_at {g : Nat} {w : World} {z : RsV} {s : Shm} (hg : g = z.g) (h : RsIn w z s) (ag k a size op : Int) : Calls Tryz.prog 105 #[ptr g, .int .i64 ag, .int .i64 k, .int .i64 a, .int .i64 size, .int .i64 op] w fun e w' => e = .returned (.int .i64 (shE s ag k a size op)) ∧ w = w' := by subst hg; exact rsasks_any w z s h ag k a size op
theorem rslog_at {g : Nat} {w : World} {z : RsV} {s : Shm} (hg : g = z.g) (h : RsIn w z s) {e : Ev} {v : Vs} (ho : EvOwn w e v) (hd : ∀ k, EvFp v k → ¬ z.Fp s k) (ok : ShOk (shPush s e)) : Calls Tryz.prog 109 #[ptr g, evV e v] w (RsNotePost z s e v w) := by subst hg; exact rslog_any w z s h e v ho hd ok
theorem RsTo.at_ {g : Nat} {z : RsV} {s s1 : Shm} {w w1 : World} (hg : g = z.g) (h : RsTo z s s1 w w1) : ∃ z1, g = z1.g ∧ RsIn w1 z1 s1 ∧ Mod (z.Fp s) w w1 ∧ ∀ k, z1.Fp s1 k → z.Fp s k ∨ w.heap.size ≤ k := by
 obtain ⟨z1, e1, h1, m1, f1⟩ := h
 exact ⟨z1, hg.trans e1.symm, h1, m1, f1⟩
theorem RsTo.then {g : Nat} {z z1 : RsV} {s s1 s2 : Shm} {w w1 w2 : World} (hg : g = z.g) (hz : g = z1.g) (m : Mod (z.Fp s) w w1) (f : ∀ k, z1.Fp s1 k → z.Fp s k ∨ w.heap.size ≤ k) (h2 : RsTo z1 s1 s2 w1 w2) : RsTo z s s2 w w2 := RsTo.trans (hz.symm.trans hg) m f h2
theorem RsIn.at_cells {g : Nat} {w : World} {z : RsV} {s : Shm} (h : RsIn w z s) (hg : g = z.g) : w.cell? ⟨g, 0, none⟩ = some (.int .i64 (s.room : Int)) ∧ w.cell? ⟨g, 1, none⟩ = some z.m ∧ w.cell? ⟨g, 2, none⟩ = some z.qv ∧ w.cell? ⟨g, 3, none⟩ = some z.hv ∧ w.cell? ⟨g, 4, none⟩ = some z.pv := by subst hg; exact h.cells
theorem rfp_apart {w : World} {z : RsV} {s : Shm} (h : RsIn w z s) {k : Nat} (hk : w.heap.size ≤ k) : ¬ z.Fp s k := fun h1 => by have := h.lt h1; omega
structure RsDr (w : World) (z : RsV) (s : Shm) (g i : Nat) (qv qi m : Value) : Prop where
 e : qv = z.qv ∧ qi = z.qs i ∧ m = z.m
 ix : ∀ w', (Instr.indexAt 83 qv (.int .i64 (i : Int))).run Tryz.prog w' = .ok (.pointer (some (at_ qv i))) w'
 km : ∀ w', Mod (fun k => z.SQ i k ∨ z.U k) w w' → w'.cell? ⟨g, 2, none⟩ = some qv ∧ w'.cell? (at_ qv i) = some qi ∧ w'.cell? ⟨g, 1, none⟩ = some m
 k0 : ∀ w', Mod (fun k => z.SQ i k ∨ z.U k) w w' → w'.cell? ⟨g, 0, none⟩ = some (.int .i64 (s.room : Int))
 q : ∀ w', Ext w w' → RqAt w' qi s.room (quB s (i : Int)) (z.SQ i)
 b : ∀ w', Ext w w' → RefAt w' m s.M z.U
 ap : ∀ k, z.SQ i k → ¬ z.U k
 pt : ∃ pq : Nat, qi = ptr pq
 fin : ∀ {w' : World} {S' : Nat → Prop} {E' : List Ent} {M' : List Blk}, RqAt w' qi s.room E' S' → RefAt w' m M' z.U → Mod (fun k => z.SQ i k ∨ z.U k) w w' → (∀ k, S' k → z.SQ i k ∨ w.heap.size ≤ k) → ShOk ⟨s.n, s.room, M', s.Q.set i E', s.L⟩ → RsQ z s ⟨s.n, s.room, M', s.Q.set i E', s.L⟩ w w'
theorem RsIn.dr {w : World} {z : RsV} {s : Shm} (h : RsIn w z s) {g : Nat} (hg : g = z.g) {i : Nat} (hi : i < s.n) : ∃ qv qi m : Value, RsDr w z s g i qv qi m := by
 have h0 : 0 < s.n := by omega
 obtain ⟨c0, c1, c2, -⟩ := h.at_cells hg
 have cq := h.qcell h0 hi
 have ix := (h.qrow h0).sl.run_idx (P := Tryz.prog) IQR.und IQR.size .i64 i hi
 rw [Nat.mul_one] at ix
 have hn : ∀ k, z.Lf s.L.ev.length k → ¬ (z.SQ i k ∨ z.U k) := fun k hk hh => hh.elim (fun h1 => (h.lq h0 i k hi h1).1 hk) (fun h1 => h.lu k hk h1)
 obtain ⟨pq, lv, V, e, _⟩ := (h.qat h0 i hi).ex
 exact ⟨z.qv, z.qs i, z.m, ⟨rfl, rfl, rfl⟩, ix, fun w' M => ⟨M.cell c2 (hn _ (.inl hg)), M.cell cq (hn _ (.inr (.inl ((h.qrow h0).at_block (by omega) i)))), M.cell c1 (hn _ (.inl hg))⟩, fun w' M => M.cell c0 (hn _ (.inl hg)),
  fun w' x => (h.qat h0 i hi).ext x, fun w' x => h.blks.ext x, fun k hk => (h.lq h0 i k hi hk).2, ⟨pq, e⟩, fun q1 b1 M1 s1 ok => h.setQ_q hi h0 q1 b1 M1 s1 ok⟩
end Go.Proofs.YtbhocahmhmafmaaGreat
namespace Go.Proofs.YtbhocahmhmafmaaGreat
open Go.Ren Go.RowKit
set_option linter.unusedVariables false
def RsPost (z : RsV) (s : Shm) (r : (Nat × Int) × Shm) (w : World) (e : Ending) (w' : World) : Prop := e = .returned (.tuple #[.int .u64 (r.1.1 : Int), .int .i64 r.1.2]) ∧ RsTo z s r.2 w w'
set_option maxRecDepth 100000 in
set_option maxHeartbeats 1600000 in
theorem rsload_any (w : World) (z : RsV) (s : Shm) (h : RsIn w z s) (ag k pa size : Int) (seq nt : Bool) :
 Calls Tryz.prog 52 #[ptr z.g, .int .i64 ag, .int .i64 k, .int .i64 pa, .int .i64 size, .bool seq, .bool nt] w (RsPost z s (shLoad s ag k pa size seq nt) w) := by
 have HS := Lib.hid h
 obtain ⟨C, hC⟩ : ∃ C, C = shE s ag k pa size 1 := ⟨_, rfl⟩
 obtain ⟨g, hg⟩ : ∃ g, g = z.g := ⟨_, rfl⟩
 by_cases hc : C = 0
 case neg =>
  have HR : Hid (shLoad s ag k pa size seq nt = ((0, C), s)) := Lib.hid (by unfold shLoad; rw [← hC, if_pos hc])
  have hb : (C != 0) = true := by simpa using hc
  have HC := Lib.hid hC
  have HG := Lib.hid hg
  rw [HR.out, ← hg]
  clear hc hC hg h
  go_enter Tryz.func52, Tryz.ntmps52
  go_wp2_with fail
  refine (rsasks_at HG.out HS.out ag k pa size 1).mono ?_
  rintro e w' ⟨rfl, rfl⟩
  rw [← HC.out]
  go_wp2_with fail
  go_ret2
  exact ⟨rfl, HS.out.to (Mod.refl _ _)⟩
 case pos =>
  obtain ⟨hA, -, hl⟩ := shE_0 (show shE s ag k pa size 1 = 0 by rw [← hC]; exact hc)
  obtain ⟨i, rfl, hin⟩ := hA.ag
  have HR : Hid (shLoad s (i : Int) k pa size seq nt = ((wordN (ldB (shSeq s (i : Int) seq) (i : Int) k pa size), 0), shLd (shSeq s (i : Int) seq) (i : Int) k pa size seq nt)) := Lib.hid (by unfold shLoad; rw [← hC, if_neg (by omega)])
  have HC : Hid (shE s (i : Int) k pa size 1 = 0) := Lib.hid (by rw [← hC]; exact hc)
  obtain ⟨qv, qi, m, hd⟩ := h.dr hg hin
  have HD := Lib.hid hd
  have HA := Lib.hid (And.intro hA (And.intro hin hl))
  have HG := Lib.hid hg
  have ix := hd.ix
  obtain ⟨c2, cq, c1⟩ := hd.km w (Mod.refl _ _)
  rw [HR.out, ← hg]
  obtain ⟨s1, hs1⟩ : ∃ s1, s1 = shSeq s (i : Int) seq := ⟨_, rfl⟩
  have HS1 := Lib.hid hs1
  rw [← hs1]
  clear hs1 hc hC hg h hA hl hd C hin
  go_enter Tryz.func52, Tryz.ntmps52
  go_wp2_with fail
  refine (rsasks_at HG.out HS.out (i : Int) k pa size 1).mono ?_
  rintro e w' ⟨rfl, rfl⟩
  rw [HC.out]
  go_upto_if 31 with fail
  go_cut [16] (fun s16 wx => s16 = .int .i64 0 ∧ RsTo z s s1 w wx)
  case first =>
   cases seq with
   | false =>
    go_wp2_with fail
    go_meet
    exact ⟨rfl, by rw [HS1.out]; exact HS.out.to (Mod.refl _ _)⟩
   | true =>
    go_upto_region 5 with fail
    refine wp_region_plan [(0, true), (1, true), (2, true), (3, true), (4, true), (5, true), (6, true), (7, true), (8, true), (9, true), (10, true), (11, false)] (fun w' => w'.cell? ⟨g, 2, none⟩ = some qv ∧ w'.cell? (at_ qv i) = some qi ∧ w'.cell? ⟨g, 1, none⟩ = some m) (by kernel_rfl) (by kernel_rfl) (by kernel_rfl) (fun _ d _ _ _ h => by cases d <;> exact h) (⟨c2, cq, c1⟩) ?_
    simp only [planL, getO]
    iterate 11 (refine plan_take (v := ?_) (by rfl) (fun wS hS => ?_) ?_; rotate_left; (focus ((try dsimp only at hS); go_simp; (try with_reducible rfl); done)); (try simp only [Act.put, List.setIfInBounds_toArray, List.set_cons_zero, List.set_cons_succ]))
    refine plan_call (fun K hK => ?_)
    go_simp
    go_at_call 106; refine (rdrain_any _ qi m s.room (quB s (i : Int)) (z.SQ i) (HD.out.q _ (Mod.drew (Mod.refl _ _))) s.M z.U (HD.out.b _ (Mod.drew (Mod.refl _ _))) HD.out.ap).mono ?_; rintro en v1 ⟨rfl, S1, q1, b1, m1, sf1⟩; have M1 : Mod (fun k => z.SQ i k ∨ z.U k) w v1 := Mod.trans (Mod.drew (Mod.refl _ _)) m1; have HE := Lib.hid (And.intro q1 (And.intro b1 (And.intro M1 sf1)))
    refine hK.out _ _ (HD.out.km _ M1) ?_
    clear hK K
    (try simp only [Act.put, List.setIfInBounds_toArray, List.set_cons_zero, List.set_cons_succ])
    refine plan_nil ?_
    have HP : Hid (RsTo z s s1 w v1) := Lib.hid (by
     obtain ⟨q1, b1, M1, sf1⟩ := HE.out
     rw [HS1.out]
     show RsTo z s (shDrain s (i : Int)) w v1
     have hok := HS.out.ok.drain HA.out.2.1
     unfold shDrain at hok ⊢
     rw [Int.toNat_natCast] at hok ⊢
     exact (HD.out.fin q1 b1 M1 (fun k hk => (sf1 k hk).imp id (fun h => by simpa only [World.size_drew] using h)) hok).to)
    clear c1 c2 cq
    go_wp2_with fail
    go_meet
    exact ⟨rfl, HP.out⟩
  case rest =>
   obtain ⟨rfl, P1⟩ := hcut
   obtain ⟨z1, e1, h1, m1, f1⟩ := P1.at_ HG.out
   have HK1 : Hid (ShOk s1 ∧ Asked s1 (i : Int) k pa size ∧ s1.L = s.L ∧ s1.n = s.n) := Lib.hid (by
    rw [HS1.out]
    have h2 := HS.out.ok.seq_ (seq := seq) HA.out.1
    exact ⟨h2.1, h2.2, shSeq_L _ _ _, by unfold shSeq; split <;> rfl⟩)
   obtain ⟨qv1, qi1, m1', hd1⟩ := h1.dr e1 (i := i) (by have := HA.out.2.1; have := HK1.out.2.2.2; omega)
   have HD1 := Lib.hid hd1
   have H1 := Lib.hid (And.intro e1 (And.intro h1 (And.intro m1 f1)))
   have ix1 := hd1.ix
   clear ix c1 c2 cq
   obtain ⟨c2, cq, c1⟩ := hd1.km wc (Mod.refl _ _)
   clear P1 e1 h1 m1 f1 hd1
   go_wp2_with fail
   refine (rread_any _ _ _ _ (HD1.out.b _ (Mod.refl _ _)) k pa size).mono ?_
   rintro e w2 ⟨v, u, rfl, ov, ou, x2, fv, fu⟩
   have HV := Lib.hid (And.intro ov (And.intro ou (And.intro x2 (And.intro fv fu))))
   clear ov ou x2 fv fu c1 c2 cq
   obtain ⟨c2, cq, -⟩ := HD1.out.km w2 (Ext.mod HV.out.2.2.1 _)
   go_wp2_with fail
   refine (rover_any _ _ _ _ _ (HD1.out.q _ HV.out.2.2.1) k pa (HK1.out.2.1.rng HK1.out.1).2.2.1 v u _ _ HV.out.1.sl ⟨HV.out.2.1.sl, breadY_i HK1.out.1.bk⟩ (by have h1 := bread_len20 HK1.out.1.bk (k := k) (a := pa) (n := size); have h2 := HK1.out.2.1.sz; omega) (by have h1 := bread_len20 HK1.out.1.bk (k := k) (a := pa) (n := size); have h2 := HK1.out.2.1.sz; omega)).mono ?_
   rintro e w3 ⟨v', u', rfl, ov', ou', x3, fv', fu'⟩
   have HM : Hid (LoadMid s1 (i : Int) k pa size wc w3 v' u') := Lib.hid (by
    have x2 := HV.out.2.2.1
    exact ⟨ov', ou', x2.trans x3, fun q hq => Nat.le_trans x2.size (fv' q hq), fun q hq => Nat.le_trans x2.size (fu' q hq)⟩)
   have H3 := Lib.hid (H1.out.2.1.ext HM.out.x)
   have HF := Lib.hid (ld_facts HK1.out.1 HK1.out.2.1)
   have HOK : Hid (ShOk (shLd s1 (i : Int) k pa size seq nt)) := Lib.hid (HK1.out.1.ld HK1.out.2.1 (by have h1 := HK1.out.2.2.1; have h2 := HA.out.2.2; rw [h1]; omega))
   obtain ⟨la1, lc1, hv1, -⟩ := ov'.sl.shape
   obtain ⟨la2, lc2, hv2, -⟩ := ou'.sl.shape
   clear ov' ou' x3 fv' fu' c2 cq ix1
   subst hv1 hv2
   go_wp2_with fail
   refine (rslog_at (v := ⟨_, .slice none 0 0, _⟩) H1.out.1 H3.out (e := ⟨(i : Int), 1, seq, nt, k, pa, size, ldB s1 (i : Int) k pa size, [], ldY s1 (i : Int) k pa size⟩) ⟨HM.out.b, Own.nil _ _ _, HM.out.y⟩ (fun q hq => rfp_apart H1.out.2.1 (by rcases hq with hq | hq | hq; exact HM.out.fb q hq; cases hq; exact HM.out.fy q hq)) HOK.out).mono ?_
   rintro e w4 P4
   obtain rfl := P4.1
   have HP4 := Lib.hid P4
   clear P4
   go_wp2_with fail
   refine (rword_any _ _ (ldB s1 (i : Int) k pa size) (rnote_own HP4.out).rd.sl (by have := HF.out; omega)).mono ?_
   rintro e w5 ⟨rfl, rfl⟩
   go_wp2_with fail
   go_ret2
   exact ⟨rfl, (RsTo.then HG.out H1.out.1 H1.out.2.2.1 H1.out.2.2.2 (H1.out.2.1.note_to HM.out.x (fun q hq => by rcases hq with hq | hq | hq; exact HM.out.fb q hq; cases hq; exact HM.out.fy q hq) HP4.out))⟩
end Go.Proofs.YtbhocahmhmafmaaGreat
namespace Go.Proofs.YtbhocahmhmafmaaGreat
open Go.Ren Go.RowKit
set_option linter.unusedVariables false
set_option maxRecDepth 100000 in
set_option maxHeartbeats 800000 in
theorem rbytes4_any (w : World) (k m : Nat) (hk : k ≤ 8) (hm : m < 18446744073709551616) : Calls Tryz.prog 111 #[.int .i64 (k : Int), .int .u64 (m : Int)] w (Copied 5 ((bytesN k m).map bv) w) := by
 have HM := Lib.hid hm
 clear hm
 have hleI : (k : Int) ≤ 8 := by omega
 go_enter Tryz.func111, Tryz.ntmps111
 go_wp2_with fail
 go_loopw [1, 5, 6] (fun s1 s5 s wr => ∃ a : Nat, a ≤ k ∧ s = .int .i64 (a : Int) ∧ s1 = .int .u64 ((m >>> (8 * a) : Nat) : Int) ∧ Own wr 5 1 s5 a ((bytesN a m).map bv) ∧ Ext w wr ∧ ∀ q, s5.ownBlock = some q → w.heap.size ≤ q) (fun _ _ s _ => k - (intOf s).toNat)
 case atStart => exact ⟨0, Nat.zero_le _, rfl, rfl, Own.nil _ _ _, Mod.refl _ _, fun q hq => by cases hq⟩
 case round =>
  obtain ⟨a, ha, rfl, rfl, ho, xx, hf⟩ := hrel
  have H := Lib.hid (And.intro ho (And.intro xx hf))
  clear ho xx hf
  by_cases hlt : a < k
  · have hlt' : (a : Int) < (k : Int) := by omega
    obtain ⟨M, hM⟩ : ∃ M, M = m >>> (8 * a) := ⟨_, rfl⟩
    have HMM := Lib.hid hM
    rw [← hM]
    have cv := conv_u8 M
    obtain ⟨b, hb⟩ : ∃ b : UInt8, b = UInt8.ofNat M := ⟨_, rfl⟩
    rw [← hb] at cv
    have HB := Lib.hid hb
    have HS : Hid (((M : Int) / 2 ^ 8) = ((m >>> (8 * (a + 1)) : Nat) : Int)) := Lib.hid (by
     rw [HMM.out, show 8 * (a + 1) = 8 * a + 8 by omega, Nat.shiftRight_add, Nat.shiftRight_eq_div_pow (m >>> (8 * a)) 8]
     simp)
    clear hM hb
    go_wp2_with (at_builtin; go_loud (refine wpList_app IB rfl (.tmp 12) (.tmp 15) rfl (H.out.1.ext (Mod.alloc (Mod.refl _ _) _)) (built_sl (n := 1) (g := wr.heap.size) (e := 5) (cs := #[.int .u8 (b.toNat : Int)]) (by simp only [heap_alloc_if, if_true]) rfl (by simp only [maxLen]; omega)) (one1u _) (by simp [Act.eval]) (by simp [Act.eval]) (by omega) (by simp only [maxLen]; omega) ?_); intro lv' w2 ol2 gr2 fr2 nn2; have HH := Lib.hid (And.intro ol2 (And.intro gr2 fr2)); clear ol2 gr2 fr2 nn2)
    go_roundw
    case rel =>
     obtain ⟨ol2, gr2, fr2⟩ := HH.out
     have M2 : Mod (fun q => u5.ownBlock = some q) wr w2 := Mod.grown (Mod.alloc (Mod.refl _ _) _) gr2 (fun q h => .inl h)
     refine ⟨a + 1, by omega, by go_num, ?_, ?_, H.out.2.1.trans' M2 (fun q hq => .inr (H.out.2.2 q hq)), fun q hq => ?_⟩
     · rw [← HS.out]; rfl
     · rw [bytesN_succ, List.map_append, ← HMM.out, ← HB.out]; exact ol2
     · rcases fr2 q hq with h | h
       · exact H.out.2.2 q h
       · simp only [World.size_alloc] at h; have := H.out.2.1.size; omega
    case measure => simp [intOf]; omega
  · have hlt' : ¬ (a : Int) < (k : Int) := by omega
    obtain rfl : a = k := by omega
    go_wp2_with fail
    go_ret
    refine ⟨_, rfl, by rw [List.length_map, bytesN_len]; exact H.out.1, H.out.2.1, H.out.2.2⟩
set_option maxRecDepth 100000 in
theorem rmask_any (w : World) (size : Int) (hs : size = 1 ∨ size = 2 ∨ size = 4 ∨ size = 8) (m : Nat) (hm : m < 18446744073709551616) : Calls Tryz.prog 118 #[.int .i64 size, .int .u64 (m : Int)] w fun e w' => e = .returned (.int .u64 ((m % 2 ^ (8 * size.toNat) : Nat) : Int)) ∧ w' = w := by
 have HM := Lib.hid hm
 clear hm
 rcases hs with rfl | rfl | rfl | rfl
 case inr.inr.inr =>
  go_enter Tryz.func118, Tryz.ntmps118
  go_wp2_with fail
  go_ret
  exact ⟨by rw [show (8 : Int).toNat = 8 from rfl, Nat.mod_eq_of_lt HM.out]; rfl, rfl⟩
 all_goals
  go_enter Tryz.func118, Tryz.ntmps118
  go_wp2_with fail
  go_ret
  exact ⟨rfl, rfl⟩
theorem cut_kind {size : Int} (hs : size = 1 ∨ size = 2 ∨ size = 4 ∨ size = 8) (m : Nat) : cutK (kindC size) m = m % 2 ^ (8 * size.toNat) := by unfold cutK; rw [(szK_kindC hs).1]
set_option maxRecDepth 100000 in
theorem rchange_any (w : World) (size o : Int) (hs : size = 1 ∨ size = 2 ∨ size = 4 ∨ size = 8) (ho : 1 ≤ o ∧ o ≤ 6) (a b : Nat) (ha : a < 18446744073709551616) (hb : b < 18446744073709551616) : Calls Tryz.prog 115 #[.int .i64 size, .int .i64 o, .int .u64 (a : Int), .int .u64 (b : Int)] w (ChangePost (changeK (kindC size) o a b) w) := by
 have HA := Lib.hid ha
 have HB := Lib.hid hb
 have HS := Lib.hid hs
 have hz : (size == 0) = false := by simp; omega
 clear ha hb hs
 rcases (by omega : o = 1 ∨ o = 2 ∨ o = 3 ∨ o = 4 ∨ o = 5 ∨ o = 6) with rfl | rfl | rfl | rfl | rfl | rfl
 · have HC : Hid (changeK (kindC size) 1 a b = (((a + b) % 18446744073709551616) % 2 ^ (8 * size.toNat), true)) := Lib.hid (by unfold changeK; rw [if_neg (szK_kindC HS.out).2, ← cut_kind HS.out]; rfl)
   have wr := wrap_add HA.out HB.out
   go_enter Tryz.func115, Tryz.ntmps115
   go_wp2_with fail
   refine (rmask_any _ size HS.out ((a + b) % 18446744073709551616) (Nat.mod_lt _ (by decide))).mono ?_
   rintro e w1 ⟨rfl, rfl⟩
   go_wp2_with fail
   go_ret2
   rw [HC.out]
   exact ⟨rfl, rfl⟩
 · have HC : Hid (changeK (kindC size) 2 a b = ((a &&& b) % 2 ^ (8 * size.toNat), true)) := Lib.hid (by unfold changeK; rw [if_neg (szK_kindC HS.out).2, ← cut_kind HS.out]; rfl)
   have wr := bits_and64 HA.out HB.out
   go_enter Tryz.func115, Tryz.ntmps115
   go_wp2_with fail
   refine (rmask_any _ size HS.out (a &&& b) (Nat.lt_of_le_of_lt Nat.and_le_left HA.out)).mono ?_
   rintro e w1 ⟨rfl, rfl⟩
   go_wp2_with fail
   go_ret2
   rw [HC.out]
   exact ⟨rfl, rfl⟩
 · have HC : Hid (changeK (kindC size) 3 a b = ((a ||| b) % 2 ^ (8 * size.toNat), true)) := Lib.hid (by unfold changeK; rw [if_neg (szK_kindC HS.out).2, ← cut_kind HS.out]; rfl)
   have wr := bits_or64 HA.out HB.out
   go_enter Tryz.func115, Tryz.ntmps115
   go_wp2_with fail
   refine (rmask_any _ size HS.out (a ||| b) (Nat.or_lt_two_pow (n := 64) HA.out HB.out)).mono ?_
   rintro e w1 ⟨rfl, rfl⟩
   go_wp2_with fail
   go_ret2
   rw [HC.out]
   exact ⟨rfl, rfl⟩
 · have HC : Hid (changeK (kindC size) 4 a b = (((a + (18446744073709551616 - b)) % 18446744073709551616) % 2 ^ (8 * size.toNat), true)) := Lib.hid (by unfold changeK; rw [if_neg (szK_kindC HS.out).2, ← cut_kind HS.out]; rfl)
   have wr := wrap_sub HA.out HB.out
   go_enter Tryz.func115, Tryz.ntmps115
   go_wp2_with fail
   refine (rmask_any _ size HS.out ((a + (18446744073709551616 - b)) % 18446744073709551616) (Nat.mod_lt _ (by decide))).mono ?_
   rintro e w1 ⟨rfl, rfl⟩
   go_wp2_with fail
   go_ret2
   rw [HC.out]
   exact ⟨rfl, rfl⟩
 · have HC : Hid (changeK (kindC size) 5 a b = ((a ^^^ b) % 2 ^ (8 * size.toNat), true)) := Lib.hid (by unfold changeK; rw [if_neg (szK_kindC HS.out).2, ← cut_kind HS.out]; rfl)
   have wr := bits_xor64 HA.out HB.out
   go_enter Tryz.func115, Tryz.ntmps115
   go_wp2_with fail
   refine (rmask_any _ size HS.out (a ^^^ b) (Nat.xor_lt_two_pow (n := 64) HA.out HB.out)).mono ?_
   rintro e w1 ⟨rfl, rfl⟩
   go_wp2_with fail
   go_ret2
   rw [HC.out]
   exact ⟨rfl, rfl⟩
 · have HC : Hid (changeK (kindC size) 6 a b = ((b) % 2 ^ (8 * size.toNat), true)) := Lib.hid (by unfold changeK; rw [if_neg (szK_kindC HS.out).2, ← cut_kind HS.out]; rfl)
   skip
   go_enter Tryz.func115, Tryz.ntmps115
   go_wp2_with fail
   refine (rmask_any _ size HS.out (b) (HB.out)).mono ?_
   rintro e w1 ⟨rfl, rfl⟩
   go_wp2_with fail
   go_ret2
   rw [HC.out]
   exact ⟨rfl, rfl⟩
end Go.Proofs.YtbhocahmhmafmaaGreat
namespace Go.Proofs.YtbhocahmhmafmaaGreat
open Go.Ren Go.RowKit
set_option linter.unusedVariables false
def RsErr (z : RsV) (s : Shm) (r : Int × Shm) (w : World) (e : Ending) (w' : World) : Prop := e = .returned (.int .i64 r.1) ∧ RsTo z s r.2 w w'
theorem rbytes4_at (w : World) {size : Int} (hs : size = 1 ∨ size = 2 ∨ size = 4 ∨ size = 8) (m : Nat) (hm : m < 18446744073709551616) : Calls Tryz.prog 111 #[.int .i64 size, .int .u64 (m : Int)] w (Copied 5 ((bytesN size.toNat m).map bv) w) := by
 obtain ⟨k, rfl⟩ : ∃ k : Nat, size = (k : Int) := ⟨size.toNat, by omega⟩
 rw [Int.toNat_natCast]
 exact rbytes4_any w k m (by omega) hm
theorem rq_own {w : World} {z : RsV} {s : Shm} {e : Ev} {v : Vs} {hv' : Value} {SQ' : Nat → Nat → Prop} {s3 : Shm} (hl : s3.L = (shPush s e).L) (h3 : RsIn w { z with hv := hv', V := evUpd z.V s.L.ev.length v, SQ := SQ' } s3) : EvOwn w e v ∧ ∀ k, EvFp v k → ¬ z.U k := by
 have h2 := h3.log.ev s.L.ev.length (by rw [hl]; show _ < (s.L.ev ++ [e]).length; simp)
 have e1 : evn s3.L.ev s.L.ev.length = e := by rw [hl]; exact evn_at
 have e2 : evUpd z.V s.L.ev.length v s.L.ev.length = v := by simp [evUpd]
 rw [e1] at h2
 have h4 : EvOwn w e (evUpd z.V s.L.ev.length v s.L.ev.length) := h2
 rw [e2] at h4
 refine ⟨h4, fun k hk => h3.lu k (.inr (.inr (.inr (.inr ⟨s.L.ev.length, by rw [hl]; show _ < (s.L.ev ++ [e]).length; simp, ?_⟩))))⟩
 show EvFp (evUpd z.V s.L.ev.length v s.L.ev.length) k
 rw [e2]; exact hk
theorem rs_i64 {s : Shm} (h : ShOk s) : I64 (s.L.ev.length : Int) := by have := h.ev; unfold I64; omega
set_option maxRecDepth 100000 in
set_option maxHeartbeats 1600000 in
theorem rsstore_any (w : World) (z : RsV) (s : Shm) (h : RsIn w z s) (ag k pa size : Int) (m : Nat) (hm : m < 18446744073709551616) (seq nt : Bool) :
 Calls Tryz.prog 53 #[ptr z.g, .int .i64 ag, .int .i64 k, .int .i64 pa, .int .i64 size, .int .u64 (m : Int), .bool seq, .bool nt] w (RsErr z s (shStore s ag k pa size m seq nt) w) := by
 have HS := Lib.hid h
 have HM := Lib.hid hm
 clear hm
 obtain ⟨C, hC⟩ : ∃ C, C = shE s ag k pa size 1 := ⟨_, rfl⟩
 obtain ⟨g, hg⟩ : ∃ g, g = z.g := ⟨_, rfl⟩
 by_cases hc : C = 0
 case neg =>
  have HR : Hid (shStore s ag k pa size m seq nt = (C, s)) := Lib.hid (by unfold shStore; rw [← hC, if_pos hc])
  have hb : (C != 0) = true := by simpa using hc
  have HC := Lib.hid hC
  have HG := Lib.hid hg
  rw [HR.out, ← hg]
  clear hc hC hg h
  go_enter Tryz.func53, Tryz.ntmps53
  go_wp2_with fail
  refine (rsasks_at HG.out HS.out ag k pa size 1).mono ?_
  rintro e w' ⟨rfl, rfl⟩
  rw [← HC.out]
  go_wp2_with fail
  go_ret
  exact ⟨rfl, HS.out.to (Mod.refl _ _)⟩
 case pos =>
  obtain ⟨hA, -, hl⟩ := shE_0 (show shE s ag k pa size 1 = 0 by rw [← hC]; exact hc)
  obtain ⟨i, rfl, hin⟩ := hA.ag
  have HR : Hid (shStore s (i : Int) k pa size m seq nt = (0, shSt s (i : Int) k pa size m seq nt)) := Lib.hid (by unfold shStore; rw [← hC, if_neg (by omega)])
  have HC : Hid (shE s (i : Int) k pa size 1 = 0) := Lib.hid (by rw [← hC]; exact hc)
  have HA := Lib.hid (And.intro hA (And.intro hin hl))
  have HG := Lib.hid hg
  obtain ⟨L, hL⟩ : ∃ L, L = bytesN size.toNat m := ⟨_, rfl⟩
  have HL : Hid (L = bytesN size.toNat m ∧ L.length = size.toNat ∧ size.toNat ≤ 8) := Lib.hid ⟨hL, by rw [hL]; exact bytesN_len _ _, by have := hA.sz; omega⟩
  have HOK : Hid (ShOk (shPush s (stEv (i : Int) k pa size m seq nt))) := Lib.hid (HS.out.ok.st0 hA hl)
  rw [HR.out, ← hg]
  clear hc hC hg h hA hl hin C hL
  go_enter Tryz.func53, Tryz.ntmps53
  go_wp2_with fail
  refine (rsasks_at HG.out HS.out (i : Int) k pa size 1).mono ?_
  rintro e w' ⟨rfl, rfl⟩
  rw [HC.out]
  go_wp2_with fail
  refine (rbytes4_at _ HA.out.1.sz m HM.out).mono ?_
  rintro e w1 ⟨vb, rfl, ob, x1, fb⟩
  rw [← HL.out.1, List.length_map] at ob
  obtain ⟨la, lc, hvb, -⟩ := ob.sl.shape
  subst hvb
  have H1 := Lib.hid (And.intro ob (And.intro x1 fb))
  clear ob x1 fb
  go_wp2_with fail
  refine (rslog_at (v := ⟨.slice none 0 0, _, .slice none 0 0⟩) HG.out (HS.out.ext H1.out.2.1) (e := stEv (i : Int) k pa size m seq nt) ⟨Own.nil _ _ _, by show Own w1 _ 1 (.slice la L.length lc) (bytesN size.toNat m).length ((bytesN size.toNat m).map bv); rw [← HL.out.1]; exact H1.out.1, Own.nil _ _ _⟩ (fun q hq => rfp_apart HS.out (by rcases hq with hq | hq | hq; cases hq; exact H1.out.2.2 q hq; cases hq)) HOK.out).mono ?_
  rintro e w2 P4
  obtain rfl := P4.1
  obtain ⟨hv', h2, m2, f2⟩ := P4.2
  obtain ⟨M2, F2⟩ := HS.out.note_fp (e := stEv (i : Int) k pa size m seq nt) (v := ⟨.slice none 0 0, .slice la L.length lc, .slice none 0 0⟩) H1.out.2.1 (fun q hq => (by rcases hq with hq | hq | hq; cases hq; exact H1.out.2.2 q hq; cases hq)) m2 f2
  have HP := Lib.hid (And.intro h2 (And.intro M2 F2))
  obtain ⟨s2, hs2⟩ : ∃ s2, s2 = shPush s (stEv (i : Int) k pa size m seq nt) := ⟨_, rfl⟩
  have i2 : i < s2.n := by rw [hs2]; exact HA.out.2.1
  rw [← hs2] at h2
  obtain ⟨qv, qi, mm, hd⟩ := h2.dr HG.out i2
  have HD := Lib.hid hd
  have HS2 := Lib.hid (And.intro hs2 i2)
  have r2 : s2.room = s.room := by rw [hs2]; rfl
  have ix := hd.ix
  obtain ⟨c2, cq, c1⟩ := hd.km w2 (Mod.refl _ _)
  have c0 := hd.k0 w2 (Mod.refl _ _)
  obtain ⟨pq, hpq⟩ := hd.pt
  subst hpq
  obtain ⟨RM, hRM⟩ : ∃ R, R = s2.room := ⟨_, rfl⟩
  rw [← hRM] at c0
  have HRM : Hid (RM = s2.room ∧ RM = s.room) := Lib.hid ⟨hRM, by rw [hRM, r2]⟩
  have HBY : Hid (∀ w', EvOwn w' (stEv (i : Int) k pa size m seq nt) ⟨.slice none 0 0, .slice la L.length lc, .slice none 0 0⟩ → BytesAt w' (.slice la L.length lc) L) := Lib.hid (fun w' h => by
   have h5 : Sl w' (.slice la L.length lc) 1 (bytesN size.toNat m).length ((bytesN size.toNat m).map bv) := h.wr.sl
   rw [← HL.out.1] at h5
   exact h5)
  clear h2 m2 f2 M2 F2 P4 hd hs2 i2 r2 hRM
  rcases (by cases seq <;> simp : seq = true ∨ seq = false) with rfl | rfl
  case' inl => rcases (⟨trivial, trivial⟩ : True ∧ True) with ⟨-, -⟩
  case' inr => rcases Nat.eq_zero_or_pos RM with hz | hz
  case inr.inr =>
   have hz' : ((RM : Int) == 0) = false := by simp; omega
   have HZ := Lib.hid hz
   clear hz
   have HE : Hid (shSt s (i : Int) k pa size m false nt = shPut (shRoom s2 (i : Int)) (i : Int) ⟨k, pa, L, s.L.ev.length, !nt⟩) := Lib.hid (by unfold shSt; rw [if_neg (by have h7 := HZ.out; have h9 := HRM.out.2; intro h8; rcases h8 with h8 | h8; cases h8; have h10 : (shPush s (stEv (i : Int) k pa size m false nt)).room = s.room := rfl; omega), HL.out.1, HS2.out.1])
   obtain ⟨lq, qc1, ql⟩ : ∃ lq : Value, w2.cell? ⟨pq, 1, none⟩ = some lq ∧ ∀ w', (Builtin.len_ #[87] 3 #[lq]).run Tryz.prog w' = .ok (.int .i64 ((quB s2 (i : Int)).length : Int)) w' := by
    obtain ⟨pq', lv, V, e1, hin, -⟩ := (HD.out.q _ (Mod.refl _ _)).ex
    have e2 : pq = pq' := by simpa [ptr] using e1
    subst e2
    exact ⟨lv, by simp [World.cell?, hin.box], hin.row.sl.run_len IRQ.und 3⟩
   obtain ⟨n2, hn2⟩ : ∃ n, n = (quB s2 (i : Int)).length := ⟨_, rfl⟩
   rw [← hn2] at ql
   have HN2 := Lib.hid hn2
   clear hn2
   have KQ : Hid (∀ w', Ext w2 w' → w'.cell? ⟨pq, 1, none⟩ = some lq ∧ w'.cell? ⟨g, 0, none⟩ = some (.int .i64 (RM : Int))) := Lib.hid fun w' x => ⟨Ext.cell x qc1, Ext.cell x c0⟩
   go_upto_region 11 with fail
   refine wp_region_plan [(0, true), (1, true), (2, true), (3, true), (4, true), (5, true), (6, true), (7, true), (8, true), (9, true)] (fun w' => w'.cell? ⟨pq, 1, none⟩ = some lq ∧ w'.cell? ⟨g, 0, none⟩ = some (.int .i64 (RM : Int))) (by kernel_rfl) (by kernel_rfl) (by kernel_rfl) (fun _ d _ _ _ h => by cases d <;> exact h) (KQ.out _ (Mod.drew (Mod.refl _ _))) ?_
   simp only [planL, getO]
   iterate 10 (refine plan_take (v := ?_) (by rfl) (fun wS hS => ?_) ?_; rotate_left; (focus ((try dsimp only at hS); go_simp; (try with_reducible rfl); done)); (try simp only [Act.put, List.setIfInBounds_toArray, List.set_cons_zero, List.set_cons_succ]))
   refine plan_nil ?_
   have xd : Ext w2 w2.drew := Mod.drew (Mod.refl _ _)
   obtain ⟨wd, hwd⟩ : ∃ W, W = w2.drew := ⟨_, rfl⟩
   rw [← hwd] at xd ⊢
   have HWD := Lib.hid xd
   clear c0 c1 c2 cq qc1 ql hwd xd
   obtain ⟨c2, cq, c1⟩ := HD.out.km wd (Ext.mod HWD.out _)
   go_upto_if 83 with fail
   go_cut [20] (fun s20 wx => s20 = ptr pq ∧ RsQ { z with hv := hv', V := evUpd z.V s.L.ev.length ⟨.slice none 0 0, .slice la L.length lc, .slice none 0 0⟩ } s2 (shRoom s2 (i : Int)) w2 wx)
   case first =>
    by_cases hr : RM ≤ n2
    · have hr' : (RM : Int) ≤ (n2 : Int) := by omega
      have HRR := Lib.hid hr
      clear hr
      go_wp2_with fail
      refine (rflush_any _ (ptr pq) mm _ _ _ (HD.out.q _ HWD.out) s2.M z.U (HD.out.b _ HWD.out) HD.out.ap).mono ?_
      rintro e w3 ⟨rfl, S1, q1, b1, m1, sf1⟩
      have HX := Lib.hid (And.intro q1 (And.intro b1 (And.intro ((HWD.out.mod _).trans m1) sf1)))
      clear q1 b1 m1 sf1 hr'
      go_wp2_with fail
      go_meet
      refine ⟨rfl, ?_⟩
      obtain ⟨q1, b1, m1, sf1⟩ := HX.out
      have e5 : shRoom s2 (i : Int) = shFlush s2 (i : Int) := by unfold shRoom; rw [← HN2.out, ← HRM.out.1, if_pos HRR.out]
      rw [e5]
      have hok := HP.out.1.ok
      rw [← HS2.out.1] at hok
      have hok2 := hok.flush HS2.out.2
      unfold shFlush at hok2 ⊢
      rw [Int.toNat_natCast] at hok2 ⊢
      exact HD.out.fin q1 b1 m1 (fun q hq => (sf1 q hq).imp id (fun h => Nat.le_trans HWD.out.size h)) hok2
    · have hr' : ¬ (RM : Int) ≤ (n2 : Int) := by omega
      have HRR := Lib.hid hr
      clear hr
      go_wp2_with fail
      go_meet
      refine ⟨rfl, ?_⟩
      have e5 : shRoom s2 (i : Int) = s2 := by unfold shRoom; rw [← HN2.out, ← HRM.out.1, if_neg HRR.out]
      rw [e5]
      have hp := HP.out.1
      rw [← HS2.out.1] at hp
      exact hp.q_refl HWD.out
   case rest =>
    obtain ⟨rfl, D⟩ := hcut
    obtain ⟨SQ', h3, e1, e2, e3, m3, f3⟩ := D
    have e4 : (shRoom s2 (i : Int)).L = (shPush s (stEv (i : Int) k pa size m false nt)).L := by rw [e3, HS2.out.1]
    obtain ⟨ho, hu⟩ := rq_own (z := z) (hv' := hv') (SQ' := SQ') e4 h3
    have i3 : i < (shRoom s2 (i : Int)).n := by rw [e1]; exact HS2.out.2
    have h0 : 0 < (shRoom s2 (i : Int)).n := by omega
    have rr : (shRoom s2 (i : Int)).room = s.room := by rw [e2, HS2.out.1]; rfl
    have hq3 : RqAt wc (ptr pq) (shRoom s2 (i : Int)).room (quB (shRoom s2 (i : Int)) (i : Int)) (SQ' i) := by
     have h9 := h3.qat h0 i i3
     have h10 : z.qs i = ptr pq := HD.out.e.2.1.symm
     rw [← h10]; exact h9
    have HD3 := Lib.hid (And.intro h3 (And.intro (RsQ.fp e1 e2 e3 m3 f3) (And.intro ho (And.intro i3 (And.intro h0 (And.intro hq3 rr))))))
    clear h3 e1 e2 e3 m3 f3 ho hu i3 h0 e4 c2 cq c1 ix hq3 rr
    go_wp2_with fail
    refine (rput_any _ (ptr pq) (shRoom s2 (i : Int)).room (quB (shRoom s2 (i : Int)) (i : Int)) (SQ' i) HD3.out.2.2.2.2.2.1 ⟨k, pa, L, s.L.ev.length, !nt⟩ _ (HBY.out _ HD3.out.2.2.1) ⟨(HA.out.1.rng HS.out.ok).2.1, rs_i64 HS.out.ok⟩).mono ?_
    rintro e w4 ⟨rfl, S1, q1, m1, sf1⟩
    have HX := Lib.hid (And.intro q1 (And.intro m1 sf1))
    clear q1 m1 sf1
    go_wp2_with fail
    go_ret
    obtain ⟨q1, m1, sf1⟩ := HX.out
    obtain ⟨h3, MF, ho, i3, h0, hq3, rr⟩ := HD3.out
    have h10 : z.qs i = ptr pq := HD.out.e.2.1.symm
    have T4 := (h3.setQ_q (E' := qput (shRoom s2 (i : Int)).room (quB (shRoom s2 (i : Int)) (i : Int)) ⟨k, pa, L, s.L.ev.length, !nt⟩) i3 h0 (by show RqAt w4 (z.qs i) _ _ _; rw [h10]; exact q1) (h3.blks.mod m1 (fun q hu hq => (h3.lq h0 i q i3 hq).2 hu)) (m1.weak (fun q hq => .inl (.inl hq))) sf1 (h3.ok.put i3 ⟨(HA.out.1.rng HS.out.ok).2.1, rs_i64 HS.out.ok⟩)).to
    refine ⟨rfl, ?_⟩
    show RsTo z s (shSt s (i : Int) k pa size m false nt) w w4
    rw [HE.out]
    exact RsTo.trans (z' := { z with hv := hv', V := evUpd z.V s.L.ev.length ⟨.slice none 0 0, .slice la L.length lc, .slice none 0 0⟩ }) (s' := s2) rfl HP.out.2.1 (by rw [HS2.out.1]; exact HP.out.2.2) (RsTo.trans (z' := { z with hv := hv', V := evUpd z.V s.L.ev.length ⟨.slice none 0 0, .slice la L.length lc, .slice none 0 0⟩, SQ := SQ' }) rfl MF.1 MF.2 T4)
  all_goals
   have HE : Hid (∀ sq, (sq = true ∨ s.room = 0) → shSt s (i : Int) k pa size m sq nt = shWrite (shDrain (shPush s (stEv (i : Int) k pa size m sq nt)) (i : Int)) k pa L s.L.ev.length) := Lib.hid (fun sq h => by unfold shSt; rw [if_pos h, HL.out.1])
   go_wp2_with fail
   refine (rdrain_any _ (ptr pq) mm _ _ _ (HD.out.q _ (Mod.refl _ _)) s2.M z.U (HD.out.b _ (Mod.refl _ _)) HD.out.ap).mono ?_
   rintro e w3 ⟨rfl, S1, q1, b1, m1, sf1⟩
   have hok := HP.out.1.ok
   rw [← HS2.out.1] at hok
   have hok2 := hok.drain HS2.out.2
   have D : RsQ { z with hv := hv', V := evUpd z.V s.L.ev.length ⟨.slice none 0 0, .slice la L.length lc, .slice none 0 0⟩ } s2 (shDrain s2 (i : Int)) w2 w3 := by
    unfold shDrain at hok2 ⊢
    rw [Int.toNat_natCast] at hok2 ⊢
    exact HD.out.fin q1 b1 m1 sf1 hok2
   obtain ⟨SQ', h3, e1, e2, e3, m3, f3⟩ := D
   obtain ⟨ho, hu⟩ := rq_own (z := z) (hv' := hv') (SQ' := SQ') (e3.trans (by rw [HS2.out.1])) h3
   have HD3 := Lib.hid (And.intro h3 (And.intro (RsQ.fp e1 e2 e3 m3 f3) (And.intro ho hu)))
   clear c0 c1 c2 cq ix q1 b1 m1 sf1 hok hok2 e1 e2 e3 m3 f3 ho hu
   have c1 : w3.cell? ⟨g, 1, none⟩ = some mm := by rw [HD.out.e.2.2]; exact (h3.at_cells HG.out).2.1
   clear h3
   go_wp2_with fail
   refine (rwrite_any _ mm _ z.U (by rw [HD.out.e.2.2]; exact HD3.out.1.blks) k pa _ L (HBY.out _ HD3.out.2.2.1) (fun q hq => HD3.out.2.2.2 q (.inr (.inl (fp_ob hq)))) (by have h6 := HL.out.2; omega) _ (rs_i64 HS.out.ok)).mono ?_
   rintro e w4 ⟨rfl, b4, m4⟩
   rw [HD.out.e.2.2] at b4
   have T4 := Lib.hid (HD3.out.1.setM_to b4 m4 (fun k hk => .inl hk) (HD3.out.1.ok.write k pa L (rs_i64 HS.out.ok)))
   clear b4 m4 c1
   go_wp2_with fail
   go_ret
   refine ⟨rfl, ?_⟩
   first
    | rw [HE.out true (.inl rfl)]
    | rw [HE.out false (.inr (by have := HRM.out.2; omega))]
   exact RsTo.trans (z' := { z with hv := hv', V := evUpd z.V s.L.ev.length ⟨.slice none 0 0, .slice la L.length lc, .slice none 0 0⟩ }) rfl HP.out.2.1 (by have h := HP.out.2.2; exact h) (RsTo.trans (z' := { z with hv := hv', V := evUpd z.V s.L.ev.length ⟨.slice none 0 0, .slice la L.length lc, .slice none 0 0⟩, SQ := SQ' }) (s' := shDrain s2 (i : Int)) rfl (by have h := HD3.out.2.1.1; rw [HS2.out.1] at h; exact h) (by have h := HD3.out.2.1.2; rw [HS2.out.1] at h ⊢; exact h) (by have h := T4.out; rw [HS2.out.1] at h ⊢; exact h))
end Go.Proofs.YtbhocahmhmafmaaGreat
