/-
  The document's shared memory in memory: its box, its blocks, its buffers, its log, all apart. No condition. The contract of (*renref18.Shared).asks. No condition. The contract of (*renref18.Shared).log. No condition. The document's shared memory whose buffers are made one by one. No condition. The contract of renref18.New. No condition.
-/
import Derived.Test.YtbhocahmhmafmaaGreatPShAt
import Derived.Test.YtbhocahmhmafmaaGreatPRqFlush
import Derived.Test.YtbhocahmhmafmaaGreatPRqAt
import Derived.Test.YtbhocahmhmafmaaGreatPRefAt
import Derived.Test.YtbhocahmhmafmaaGreatPRvCopied
import Derived.Test.YtbhocahmhmafmaaGreatPShLog
namespace Go.Proofs.YtbhocahmhmafmaaGreat
open Go.Ren Go.RowKit
set_option linter.unusedVariables false
theorem IQR : EInfo Tryz.prog 83 86 1 8 (.pointer none) := ⟨Tryz.underlying83, by kernel_rfl, rfl, by decide⟩
structure RsV where
 g : Nat
 m : Value
 qv : Value
 hv : Value
 pv : Value
 qs : Nat → Value
 V : Nat → Vs
 U : Nat → Prop
 SQ : Nat → Nat → Prop
def RsV.Lf (z : RsV) (n : Nat) (k : Nat) : Prop := k = z.g ∨ z.qv.ownBlock = some k ∨ LogFp z.hv z.pv z.V n k
def RsV.Fp (z : RsV) (s : Shm) (k : Nat) : Prop := z.Lf s.L.ev.length k ∨ z.U k ∨ (0 < s.n ∧ ∃ i, i < s.n ∧ z.SQ i k)
structure RsIn (w : World) (z : RsV) (s : Shm) : Prop where
 box : w.heap[z.g]? = some (.cells #[.int .i64 (s.room : Int), z.m, z.qv, z.hv, z.pv] 85 (0, 0))
 blks : RefAt w z.m s.M z.U
 noq : s.n = 0 → z.qv = .slice none 0 0
 qrow : 0 < s.n → Own w 86 1 z.qv s.n ((List.range s.n).map z.qs)
 qat : 0 < s.n → ∀ i, i < s.n → RqAt w (z.qs i) s.room (quB s (i : Int)) (z.SQ i)
 log : RLogOwn w z.hv z.pv z.V s.L
 lu : ∀ k, z.Lf s.L.ev.length k → ¬ z.U k
 lq : 0 < s.n → ∀ i k, i < s.n → z.SQ i k → ¬ z.Lf s.L.ev.length k ∧ ¬ z.U k
 qq : 0 < s.n → ∀ i j k, i < s.n → j < s.n → i ≠ j → z.SQ i k → ¬ z.SQ j k
 ok : ShOk s
theorem RLogOwn.lt {w : World} {hv pv : Value} {V : Nat → Vs} {L : Lg} (h : RLogOwn w hv pv V L) {k : Nat} (hk : LogFp hv pv V L.ev.length k) : k < w.heap.size := by
 rcases hk with hk | hk | ⟨i, hi, hk⟩
 · exact h.row.lt hk
 · exact h.prow.lt hk
 · exact (h.ev i hi).lt hk
theorem RLogOwn.mod {F : Nat → Prop} {w w' : World} {hv pv : Value} {V : Nat → Vs} {L : Lg} (h : RLogOwn w hv pv V L) (m : Mod F w w') (hF : ∀ k, LogFp hv pv V L.ev.length k → ¬ F k) : RLogOwn w' hv pv V L :=
 ⟨h.row.mod m fun k hk => hF k (.inl hk), fun i hi => (h.ev i hi).mod m fun k hk => hF k (.inr (.inr ⟨i, hi, hk⟩)), h.prow.mod m fun k hk => hF k (.inr (.inl hk))⟩
theorem RsIn.lt_l {w : World} {z : RsV} {s : Shm} (h : RsIn w z s) {k : Nat} (hk : z.Lf s.L.ev.length k) : k < w.heap.size := by
 rcases hk with rfl | hk | hk
 · exact lt_of_block h.box
 · rcases Nat.eq_zero_or_pos s.n with h0 | h0
   · rw [h.noq h0] at hk; cases hk
   · exact (h.qrow h0).lt hk
 · exact h.log.lt hk
theorem RsIn.lt {w : World} {z : RsV} {s : Shm} (h : RsIn w z s) {k : Nat} (hk : z.Fp s k) : k < w.heap.size := by
 rcases hk with hk | hk | ⟨h0, i, hi, hk⟩
 · exact h.lt_l hk
 · exact h.blks.lt hk
 · exact (h.qat h0 i hi).lt hk
theorem RsIn.mod {F : Nat → Prop} {w w' : World} {z : RsV} {s : Shm} (h : RsIn w z s) (m : Mod F w w') (hF : ∀ k, z.Fp s k → ¬ F k) : RsIn w' z s :=
 ⟨m.blk h.box (hF _ (.inl (.inl rfl))), h.blks.mod m fun k hk => hF k (.inr (.inl hk)), h.noq, fun h0 => (h.qrow h0).mod m fun k hk => hF k (.inl (.inr (.inl hk))),
  fun h0 i hi => (h.qat h0 i hi).mod m fun k hk => hF k (.inr (.inr ⟨h0, i, hi, hk⟩)), h.log.mod m fun k hk => hF k (.inl (.inr (.inr hk))), h.lu, h.lq, h.qq, h.ok⟩
theorem RsIn.ext {w w' : World} {z : RsV} {s : Shm} (h : RsIn w z s) (x : Ext w w') : RsIn w' z s := h.mod x fun _ _ h => h
def RsTo (z : RsV) (s s' : Shm) (w w' : World) : Prop := ∃ z', z'.g = z.g ∧ RsIn w' z' s' ∧ Mod (z.Fp s) w w' ∧ ∀ k, z'.Fp s' k → z.Fp s k ∨ w.heap.size ≤ k
theorem RsIn.to {w w' : World} {z : RsV} {s : Shm} (h : RsIn w z s) (x : Ext w w') : RsTo z s s w w' := ⟨z, rfl, h.ext x, x.mod _, fun k hk => .inl hk⟩
theorem RsTo.trans {z z' : RsV} {s s' s'' : Shm} {w w' w'' : World} (hg : z'.g = z.g) (m : Mod (z.Fp s) w w') (f : ∀ k, z'.Fp s' k → z.Fp s k ∨ w.heap.size ≤ k) (h2 : RsTo z' s' s'' w' w'') : RsTo z s s'' w w'' := by
 obtain ⟨y, g2, h3, m2, f2⟩ := h2
 refine ⟨y, g2.trans hg, h3, m.trans' m2 f, fun k hk => ?_⟩
 rcases f2 k hk with h | h
 · exact f k h
 · exact .inr (Nat.le_trans m.size h)
theorem RsIn.setQ {w w' : World} {z : RsV} {s : Shm} (h : RsIn w z s) {i : Nat} (hi : i < s.n) (h0 : 0 < s.n) {E' : List Ent} {S' : Nat → Prop} {M' : List Blk} (hq : RqAt w' (z.qs i) s.room E' S') (hm : RefAt w' z.m M' z.U)
 (md : Mod (fun k => z.SQ i k ∨ z.U k) w w') (fs : ∀ k, S' k → z.SQ i k ∨ w.heap.size ≤ k) (ok : ShOk ⟨s.n, s.room, M', s.Q.set i E', s.L⟩) :
 RsIn w' { z with SQ := updS z.SQ i S' } ⟨s.n, s.room, M', s.Q.set i E', s.L⟩ := by
 have hnl : ∀ k, z.Lf s.L.ev.length k → ¬ (z.SQ i k ∨ z.U k) := fun k hk hh => hh.elim (fun h1 => (h.lq h0 i k hi h1).1 hk) (fun h1 => h.lu k hk h1)
 have hl2 : ∀ k, S' k → ¬ z.Lf s.L.ev.length k ∧ ¬ z.U k := fun k hk => by
  rcases fs k hk with h1 | h1
  · exact h.lq h0 i k hi h1
  · exact ⟨fun h2 => by have := h.lt_l h2; omega, fun h2 => by have := h.blks.lt h2; omega⟩
 have hql : i < s.Q.length := by rw [h.ok.ql]; exact hi
 refine ⟨md.blk h.box (hnl _ (.inl rfl)), hm, h.noq, fun _ => (h.qrow h0).mod md fun k hk => hnl k (.inr (.inl hk)), fun _ j hj => ?_, h.log.mod md fun k hk => hnl k (.inr (.inr hk)), h.lu, fun _ j k hj hk => ?_, fun _ j l k hj hl hne hk => ?_, ok⟩
 · rw [quB_set hql]
   by_cases e : j = i
   · subst e; rw [if_pos rfl]; show RqAt w' (z.qs j) s.room E' (updS z.SQ j S' j); rw [updS_same]; exact hq
   · rw [if_neg e]; show RqAt w' (z.qs j) s.room _ (updS z.SQ i S' j); rw [updS_ne e]
     exact (h.qat h0 j hj).mod md fun k hk hh => hh.elim (fun h1 => h.qq h0 j i k hj hi e hk h1) (fun h1 => (h.lq h0 j k hj hk).2 h1)
 · by_cases e : j = i
   · subst e; rw [show ({ z with SQ := updS z.SQ j S' } : RsV).SQ j = S' from updS_same _ _ _] at hk; exact hl2 k hk
   · rw [show ({ z with SQ := updS z.SQ i S' } : RsV).SQ j = z.SQ j from updS_ne e] at hk; exact h.lq h0 j k hj hk
 · have key : ∀ j, j < s.n → j ≠ i → z.SQ j k → ¬ S' k := fun j hj hne h1 h2 => by
    rcases fs k h2 with h3 | h3
    · exact h.qq h0 j i k hj hi hne h1 h3
    · have := (h.qat h0 j hj).lt h1; omega
   by_cases e : j = i
   · subst e
     have e2 : l ≠ j := fun h => hne h.symm
     rw [show ({ z with SQ := updS z.SQ j S' } : RsV).SQ j = S' from updS_same _ _ _] at hk
     rw [show ({ z with SQ := updS z.SQ j S' } : RsV).SQ l = z.SQ l from updS_ne e2]
     exact fun h1 => key l hl e2 h1 hk
   · rw [show ({ z with SQ := updS z.SQ i S' } : RsV).SQ j = z.SQ j from updS_ne e] at hk
     by_cases e2 : l = i
     · subst e2; rw [show ({ z with SQ := updS z.SQ l S' } : RsV).SQ l = S' from updS_same _ _ _]; exact key j hj e hk
     · rw [show ({ z with SQ := updS z.SQ i S' } : RsV).SQ l = z.SQ l from updS_ne e2]; exact h.qq h0 j l k hj hl hne hk
def RsQ (z : RsV) (s s' : Shm) (w w' : World) : Prop := ∃ SQ', RsIn w' { z with SQ := SQ' } s' ∧ s'.n = s.n ∧ s'.room = s.room ∧ s'.L = s.L ∧ Mod (fun k => z.U k ∨ (0 < s.n ∧ ∃ i, i < s.n ∧ z.SQ i k)) w w' ∧ ∀ i k, i < s.n → SQ' i k → z.SQ i k ∨ w.heap.size ≤ k
theorem RsIn.q_refl {w w' : World} {z : RsV} {s : Shm} (h : RsIn w z s) (x : Ext w w') : RsQ z s s w w' := ⟨z.SQ, h.ext x, rfl, rfl, rfl, x.mod _, fun i k _ hk => .inl hk⟩
theorem RsIn.setQ_q {w w' : World} {z : RsV} {s : Shm} (h : RsIn w z s) {i : Nat} (hi : i < s.n) (h0 : 0 < s.n) {E' : List Ent} {S' : Nat → Prop} {M' : List Blk} (hq : RqAt w' (z.qs i) s.room E' S') (hm : RefAt w' z.m M' z.U)
 (md : Mod (fun k => z.SQ i k ∨ z.U k) w w') (fs : ∀ k, S' k → z.SQ i k ∨ w.heap.size ≤ k) (ok : ShOk ⟨s.n, s.room, M', s.Q.set i E', s.L⟩) :
 RsQ z s ⟨s.n, s.room, M', s.Q.set i E', s.L⟩ w w' := by
 refine ⟨updS z.SQ i S', h.setQ hi h0 hq hm md fs ok, rfl, rfl, rfl, md.weak (fun k hk => .inl (hk.elim (fun h1 => .inr ⟨h0, i, hi, h1⟩) .inl)), fun j k hj hk => ?_⟩
 by_cases e : j = i
 · subst e; rw [updS_same] at hk; exact fs k hk
 · rw [updS_ne e] at hk; exact .inl hk
theorem RsQ.to {w w' : World} {z : RsV} {s s' : Shm} (h : RsQ z s s' w w') : RsTo z s s' w w' := by
 obtain ⟨SQ', h1, hn, hr, hl, m1, f1⟩ := h
 refine ⟨{ z with SQ := SQ' }, rfl, h1, m1.weak (fun k hk => .inl (.inr (hk.imp id id))), fun k hk => ?_⟩
 rcases hk with hk | hk | ⟨h0, i, hi, hk⟩
 · have hk' : z.Lf s'.L.ev.length k := hk
   rw [hl] at hk'
   exact .inl (.inl hk')
 · exact .inl (.inr (.inl hk))
 · rw [hn] at hi
   rw [hn] at h0
   exact (f1 i k hi hk).imp (fun h2 => .inr (.inr ⟨h0, i, hi, h2⟩)) id
theorem RsIn.setM {w w' : World} {z : RsV} {s : Shm} (h : RsIn w z s) {M' : List Blk} {U' : Nat → Prop} (hm : RefAt w' z.m M' U') (md : Mod z.U w w') (fs : ∀ k, U' k → z.U k ∨ w.heap.size ≤ k) (ok : ShOk ⟨s.n, s.room, M', s.Q, s.L⟩) :
 RsIn w' { z with U := U' } ⟨s.n, s.room, M', s.Q, s.L⟩ :=
 ⟨md.blk h.box (h.lu _ (.inl rfl)), hm, h.noq, fun h0 => (h.qrow h0).mod md fun k hk => h.lu k (.inr (.inl hk)), fun h0 i hi => (h.qat h0 i hi).mod md fun k hk => (h.lq h0 i k hi hk).2, h.log.mod md fun k hk => h.lu k (.inr (.inr hk)),
  fun k hk hu => (fs k hu).elim (fun h1 => h.lu k hk h1) (fun h1 => by have := h.lt_l hk; omega),
  fun h0 i k hi hk => ⟨(h.lq h0 i k hi hk).1, fun hu => (fs k hu).elim (fun h1 => (h.lq h0 i k hi hk).2 h1) (fun h1 => by have := (h.qat h0 i hi).lt hk; omega)⟩, h.qq, ok⟩
theorem RsIn.setM_to {w w' : World} {z : RsV} {s : Shm} (h : RsIn w z s) {M' : List Blk} {U' : Nat → Prop} (hm : RefAt w' z.m M' U') (md : Mod z.U w w') (fs : ∀ k, U' k → z.U k ∨ w.heap.size ≤ k) (ok : ShOk ⟨s.n, s.room, M', s.Q, s.L⟩) :
 RsTo z s ⟨s.n, s.room, M', s.Q, s.L⟩ w w' := by
 refine ⟨{ z with U := U' }, rfl, h.setM hm md fs ok, md.weak (fun k hk => .inl (.inr (.inl hk))), fun k hk => ?_⟩
 rcases hk with hk | hk | hk
 · exact .inl (.inl hk)
 · exact (fs k hk).imp (fun h1 => .inr (.inl h1)) id
 · exact .inl (.inr (.inr hk))
theorem RsIn.cells {w : World} {z : RsV} {s : Shm} (h : RsIn w z s) : w.cell? ⟨z.g, 0, none⟩ = some (.int .i64 (s.room : Int)) ∧ w.cell? ⟨z.g, 1, none⟩ = some z.m ∧ w.cell? ⟨z.g, 2, none⟩ = some z.qv ∧ w.cell? ⟨z.g, 3, none⟩ = some z.hv ∧ w.cell? ⟨z.g, 4, none⟩ = some z.pv := by
 simp [World.cell?, h.box]
theorem RsIn.qcell {w : World} {z : RsV} {s : Shm} (h : RsIn w z s) (h0 : 0 < s.n) {i : Nat} (hi : i < s.n) : w.cell? (at_ z.qv i) = some (z.qs i) := (h.qrow h0).sl.cell i _ (by simp [hi])
end Go.Proofs.YtbhocahmhmafmaaGreat
namespace Go.Proofs.YtbhocahmhmafmaaGreat
open Go.Ren Go.RowKit
set_option linter.unusedVariables false
set_option maxRecDepth 100000 in
set_option maxHeartbeats 1600000 in
theorem rsasks_any (w : World) (z : RsV) (s : Shm) (h : RsIn w z s) (ag k a size op : Int) : Calls Tryz.prog 105 #[ptr z.g, .int .i64 ag, .int .i64 k, .int .i64 a, .int .i64 size, .int .i64 op] w fun e w' => e = .returned (.int .i64 (shE s ag k a size op)) ∧ w = w' := by
 have HS := Lib.hid h
 obtain ⟨c0, c1, c2, c3, c4⟩ := h.cells
 have hn := h.ok.n1
 have lq := (h.qrow (by omega)).sl.run_len (P := Tryz.prog) IQR.und 3
 have le := h.log.row.sl.run_len (P := Tryz.prog) IRe.und 3
 obtain ⟨g, hg⟩ : ∃ g, g = z.g := ⟨_, rfl⟩
 obtain ⟨m, hm⟩ : ∃ g, g = z.m := ⟨_, rfl⟩
 obtain ⟨qv, hqv⟩ : ∃ g, g = z.qv := ⟨_, rfl⟩
 obtain ⟨hv, hhv⟩ : ∃ g, g = z.hv := ⟨_, rfl⟩
 obtain ⟨n, hnn⟩ : ∃ n, n = s.n := ⟨_, rfl⟩
 obtain ⟨M, hM⟩ : ∃ n, n = s.L.ev.length := ⟨_, rfl⟩
 rw [← hg] at c0 c1 c2 c3 c4 ⊢
 rw [← hm] at c1
 rw [← hqv] at c2 lq
 rw [← hnn] at lq
 rw [← hhv] at c3 le
 rw [← hM] at le
 have HA : Hid (agB s ag = decide (0 ≤ ag ∧ ag < (n : Int))) := Lib.hid (by rw [hnn]; rfl)
 have HM := Lib.hid (And.intro hm hM)
 clear hg hm hqv hhv hnn hM h c4
 by_cases hag : 0 ≤ ag ∧ ag < (n : Int)
 case neg =>
  have HR : Hid (shE s ag k a size op = 1) := Lib.hid (by
   have h1 : shC s ag k a size = 1 := by unfold shC; rw [if_pos (.inl (by rw [HA.out]; simpa using hag))]
   unfold shE; rw [h1, if_pos (by omega)])
  rw [HR.out]
  rcases (by omega : ag < 0 ∨ (¬ ag < 0 ∧ (n : Int) ≤ ag)) with z1 | ⟨z1, z2⟩
  all_goals
   clear hag
   go_enter Tryz.func105, Tryz.ntmps105
   go_wp2_with fail
   go_ret
   exact ⟨rfl, rfl⟩
 case pos =>
  have z1 : ¬ ag < 0 := by omega
  have z2 : ¬ (n : Int) ≤ ag := by omega
  have HAG : Hid (agB s ag = true) := Lib.hid (by rw [HA.out]; simpa using hag)
  clear hag
  by_cases hs : size = 1 ∨ size = 2 ∨ size = 4 ∨ size = 8
  case neg =>
   have HR : Hid (shE s ag k a size op = 1) := Lib.hid (by
    have h1 : shC s ag k a size = 1 := by unfold shC; rw [if_pos (.inr (by unfold goodB; simpa using hs))]
    unfold shE; rw [h1, if_pos (by omega)])
   rw [HR.out]
   have b1 : (size != 1) = true := by simp; omega
   have b2 : (size != 2) = true := by simp; omega
   have b4 : (size != 4) = true := by simp; omega
   have b8 : (size != 8) = true := by simp; omega
   clear hs
   go_enter Tryz.func105, Tryz.ntmps105
   go_wp2_with fail
   go_ret
   exact ⟨rfl, rfl⟩
  case pos =>
   obtain ⟨C, hC⟩ : ∃ C, C = bcheck s.M k a size := ⟨_, rfl⟩
   have HC : Hid (C = bcheck s.M k a size ∧ shC s ag k a size = C) := Lib.hid ⟨hC, by unfold shC; rw [if_neg (by rw [HAG.out]; unfold goodB; rw [decide_eq_true hs]; simp), hC]⟩
   clear hC
   by_cases hc : C = 0
   case neg =>
    have HR : Hid (shE s ag k a size op = C) := Lib.hid (by unfold shE; rw [HC.out.2, if_pos hc])
    have hc' : (C != 0) = true := by simpa using hc
    rw [HR.out]
    clear hc
    rcases hs with rfl | rfl | rfl | rfl
    all_goals
     go_enter Tryz.func105, Tryz.ntmps105
     go_wp2_with fail
     refine (rlies_any _ m s.M z.U (by rw [HM.out.1]; exact HS.out.blks) k a _).mono ?_
     rintro e w' ⟨rfl, rfl⟩
     rw [← HC.out.1]
     go_wp2_with fail
     go_ret
     exact ⟨rfl, rfl⟩
   case pos =>
    have hc' : (C != 0) = false := by simpa using hc
    have HC0 := Lib.hid hc
    clear hc
    by_cases ho : 1 ≤ op ∧ op ≤ 6
    case neg =>
     have HR : Hid (shE s ag k a size op = 8) := Lib.hid (by unfold shE; rw [HC.out.2, if_neg (by have := HC0.out; omega), if_pos (by omega)])
     rw [HR.out]
     rcases (by omega : op < 1 ∨ (¬ op < 1 ∧ 6 < op)) with y1 | ⟨y1, y2⟩
     all_goals
      clear ho
      rcases hs with rfl | rfl | rfl | rfl
      all_goals
       go_enter Tryz.func105, Tryz.ntmps105
       go_wp2_with fail
       refine (rlies_any _ m s.M z.U (by rw [HM.out.1]; exact HS.out.blks) k a _).mono ?_
       rintro e w' ⟨rfl, rfl⟩
       rw [← HC.out.1]
       go_wp2_with fail
       go_ret
       exact ⟨rfl, rfl⟩
    case pos =>
     have y1 : ¬ op < 1 := by omega
     have y2 : ¬ 6 < op := by omega
     have HR : Hid (shE s ag k a size op = if 1000 ≤ M then 11 else 0) := Lib.hid (by unfold shE; rw [HC.out.2, if_neg (by have := HC0.out; omega), if_neg (by omega), HM.out.2])
     rw [HR.out]
     clear ho
     by_cases hf : 1000 ≤ M
     · have hf' : (1000 : Int) ≤ (M : Int) := by omega
       rw [if_pos hf]
       clear hf
       rcases hs with rfl | rfl | rfl | rfl
       all_goals
        go_enter Tryz.func105, Tryz.ntmps105
        go_wp2_with fail
        refine (rlies_any _ m s.M z.U (by rw [HM.out.1]; exact HS.out.blks) k a _).mono ?_
        rintro e w' ⟨rfl, rfl⟩
        rw [← HC.out.1]
        go_wp2_with fail
        go_ret
        exact ⟨rfl, rfl⟩
     · have hf' : ¬ (1000 : Int) ≤ (M : Int) := by omega
       rw [if_neg hf]
       clear hf
       rcases hs with rfl | rfl | rfl | rfl
       all_goals
        go_enter Tryz.func105, Tryz.ntmps105
        go_wp2_with fail
        refine (rlies_any _ m s.M z.U (by rw [HM.out.1]; exact HS.out.blks) k a _).mono ?_
        rintro e w' ⟨rfl, rfl⟩
        rw [← HC.out.1]
        go_wp2_with fail
        go_ret
        exact ⟨rfl, rfl⟩
end Go.Proofs.YtbhocahmhmafmaaGreat
namespace Go.Proofs.YtbhocahmhmafmaaGreat
open Go.Ren Go.RowKit
set_option linter.unusedVariables false
theorem RLogOwn.push {w8 w9 : World} {hv hv9 pv : Value} {V : Nat → Vs} {L : Lg} {e : Ev} {v : Vs} (h : RLogOwn w8 hv pv V L) (he : EvOwn w8 e v) (M9 : Mod (fun q => hv.ownBlock = some q) w8 w9)
 (ol : Own w9 116 10 hv9 (L.ev.length + 1) (flat 10 L.ev.length (fun i j => evcell (evn L.ev i) (V i) j) ++ (evArr e v).toList)) {g : Nat} {cs : Array Value} (z9 : w9.heap[g]? = some (.cells cs 85 (0, 0))) (j : Nat) (u : Value) :
 RLogOwn (w9.setCell ⟨g, j, none⟩ u) hv9 pv (evUpd V L.ev.length v) ⟨L.ev ++ [e], L.pr⟩ := by
 have Ms : Mod (fun q => q = g) w9 (w9.setCell ⟨g, j, none⟩ u) := Mod.setCell (F := fun q => q = g) (Mod.refl _ _) (.inl rfl) _
 have kp : ∀ {e : Ev} {v : Vs}, EvOwn w8 e v → EvOwn (w9.setCell ⟨g, j, none⟩ u) e v := fun {e v} h' => by
  have h2 : EvOwn w9 e v := h'.mod M9 (fun q hq hl => by
   rcases hq with h3 | h3 | h3
   · exact h'.rd.apart h.row (by decide) h3 hl
   · exact h'.wr.apart h.row (by decide) h3 hl
   · exact h'.fr.apart h.row (by decide) h3 hl)
  exact h2.mod Ms (fun q hq hl => by subst hl; exact h2.apart z9 (by decide) (by decide) hq)
 refine ⟨?_, fun i hi => ?_, ?_⟩
 · show Own _ _ 10 hv9 (L.ev ++ [e]).length (flat 10 (L.ev ++ [e]).length _)
   rw [List.length_append, List.length_singleton]
   have e1 := evrow_snoc (fun i => evn (L.ev ++ [e]) i) V L.ev.length v
   have e2 : flat 10 L.ev.length (fun i j => evcell (evn (L.ev ++ [e]) i) (V i) j) = flat 10 L.ev.length (fun i j => evcell (evn L.ev i) (V i) j) := flat_congr fun i j hi _ => by rw [evn_lt hi]
   rw [evn_at, e2] at e1
   rw [e1]
   exact ol.mod Ms (fun q hq hl => by subst hl; exact ol.apart_obj z9 (by decide) hq)
 · have hi' : i < L.ev.length + 1 := by have : i < (L.ev ++ [e]).length := hi; simpa using this
   show EvOwn _ (evn (L.ev ++ [e]) i) _
   by_cases e0 : i = L.ev.length
   · subst e0
     rw [evn_at]
     simp only [evUpd, if_true]
     exact kp he
   · have e2 : evUpd V L.ev.length v i = V i := by simp [evUpd, e0]
     rw [e2, evn_lt (by omega)]
     exact kp (h.ev i (by omega))
 · have r9 := h.prow.mod M9 (fun k hk hl => h.prow.apart h.row (by decide) hk hl)
   exact r9.mod Ms (fun q hq hl => by subst hl; exact r9.apart_obj z9 (by decide) hq)
theorem RsIn.push {w w8 w9 : World} {z : RsV} {s : Shm} (h : RsIn w z s) (x : Ext w w8) {e : Ev} {v : Vs} (he : EvOwn w e v) (hd : ∀ k, EvFp v k → ¬ z.Fp s k) (ok : ShOk (shPush s e)) {hv9 : Value} (M9 : Mod (fun q => z.hv.ownBlock = some q) w8 w9)
 (ol : Own w9 116 10 hv9 (s.L.ev.length + 1) (flat 10 s.L.ev.length (fun i j => evcell (evn s.L.ev i) (z.V i) j) ++ (evArr e v).toList)) (fr : ∀ q, hv9.ownBlock = some q → z.hv.ownBlock = some q ∨ w.heap.size ≤ q) :
 RsIn (w9.setCell ⟨z.g, 3, none⟩ hv9) { z with hv := hv9, V := evUpd z.V s.L.ev.length v } (shPush s e) ∧ Mod (fun k => k = z.g ∨ z.hv.ownBlock = some k) w (w9.setCell ⟨z.g, 3, none⟩ hv9) := by
 have hx := h.ext x
 have z9 := M9.blk hx.box (fun k => hx.log.row.apart_obj hx.box (by decide) k)
 have M1 : Mod (fun k => k = z.g ∨ z.hv.ownBlock = some k) w (w9.setCell ⟨z.g, 3, none⟩ hv9) := ((x.mod _).trans' M9 (fun q hq => .inl (.inr hq))).setCell (.inl (.inl rfl)) _
 have lo := (h.log.ext x).push (he.ext x) M9 ol z9 3 hv9
 have hnl : ∀ k, z.U k → ¬ (k = z.g ∨ z.hv.ownBlock = some k) := fun k hk hh => h.lu k (hh.elim .inl (fun h1 => .inr (.inr (.inl h1)))) hk
 have hlf : ∀ k, ({ z with hv := hv9, V := evUpd z.V s.L.ev.length v } : RsV).Lf (shPush s e).L.ev.length k → z.Lf s.L.ev.length k ∨ w.heap.size ≤ k ∨ EvFp v k := fun k hk => by
  rcases hk with rfl | hk | hk | hk | ⟨i, hi, hk⟩
  · exact .inl (.inl rfl)
  · exact .inl (.inr (.inl hk))
  · exact (fr k hk).imp (fun h1 => .inr (.inr (.inl h1))) .inl
  · exact .inl (.inr (.inr (.inr (.inl hk))))
  · have hi' : i < s.L.ev.length + 1 := by have : i < (s.L.ev ++ [e]).length := hi; simpa using this
    by_cases e0 : i = s.L.ev.length
    · subst e0
      have e2 : evUpd z.V s.L.ev.length v s.L.ev.length = v := by simp [evUpd]
      have hk' : EvFp (evUpd z.V s.L.ev.length v s.L.ev.length) k := hk
      rw [e2] at hk'
      exact .inr (.inr hk')
    · have e2 : evUpd z.V s.L.ev.length v i = z.V i := by simp [evUpd, e0]
      have hk' : EvFp (evUpd z.V s.L.ev.length v i) k := hk
      rw [e2] at hk'
      exact .inl (.inr (.inr (.inr (.inr ⟨i, by omega, hk'⟩))))
 refine ⟨⟨?_, h.blks.mod M1 hnl, h.noq, fun h0 => ?_, fun h0 i hi => ?_, lo, fun k hk hu => ?_, fun h0 i k hi hk => ⟨fun hl => ?_, (h.lq h0 i k hi hk).2⟩, h.qq, ok⟩, M1⟩
 · simp [World.setCell, Array.getElem?_modify, z9]
   rfl
 · have q0 := h.qrow h0
   exact q0.mod M1 fun k hk hh => hh.elim (fun h1 => by subst h1; exact q0.apart_obj h.box (by decide) hk) (fun h1 => q0.apart h.log.row (by decide) hk h1)
 · exact (h.qat h0 i hi).mod M1 fun k hk hh => (h.lq h0 i k hi hk).1 (hh.elim .inl (fun h1 => .inr (.inr (.inl h1))))
 · rcases hlf k hk with h1 | h1 | h1
   · exact h.lu k h1 hu
   · have := h.blks.lt hu; omega
   · exact hd k h1 (.inr (.inl hu))
 · rcases hlf k hl with h1 | h1 | h1
   · exact (h.lq h0 i k hi hk).1 h1
   · have := (h.qat h0 i hi).lt hk; omega
   · exact hd k h1 (.inr (.inr ⟨h0, i, hi, hk⟩))
def RsNotePost (z : RsV) (s : Shm) (e : Ev) (v : Vs) (w : World) (r : Ending) (w' : World) : Prop := r = .returned (.int .i64 (s.L.ev.length : Int)) ∧ ∃ hv', RsIn w' { z with hv := hv', V := evUpd z.V s.L.ev.length v } (shPush s e) ∧
 Mod (fun k => k = z.g ∨ z.hv.ownBlock = some k) w w' ∧ ∀ k, hv'.ownBlock = some k → z.hv.ownBlock = some k ∨ w.heap.size ≤ k
set_option maxRecDepth 100000 in
set_option maxHeartbeats 1600000 in
theorem rslog_any (w : World) (z : RsV) (s : Shm) (h : RsIn w z s) (e : Ev) (v : Vs) (ho : EvOwn w e v) (hd : ∀ k, EvFp v k → ¬ z.Fp s k) (ok : ShOk (shPush s e)) :
 Calls Tryz.prog 109 #[ptr z.g, evV e v] w (RsNotePost z s e v w) := by
 obtain ⟨k1, k2, k3, t1, t2, t3⟩ := ev_facts (ho.at_ (by have := ok.evI s.L.ev.length (by show _ < (s.L.ev ++ [e]).length; simp); rwa [show evn (shPush s e).L.ev s.L.ev.length = e from evn_at] at this))
 obtain ⟨g, hg⟩ : ∃ g, g = z.g := ⟨_, rfl⟩
 obtain ⟨hv, hhv⟩ : ∃ g, g = z.hv := ⟨_, rfl⟩
 obtain ⟨w7, hw7⟩ : ∃ w7, w7 = w.alloc (.cells (evArr e v) 116) := ⟨_, rfl⟩
 obtain ⟨g7, hg7⟩ : ∃ g, g = w.heap.size := ⟨_, rfl⟩
 have x7 : Ext w w7 := by rw [hw7]; exact (Mod.refl _ _).alloc _
 have b7 : REvBox w7 g7 e v := by rw [hw7, hg7]; exact ⟨heap_alloc_new w _⟩
 have n1 : (s.L.ev.length : Int) < 1000 := by have h1 : (s.L.ev ++ [e]).length ≤ 1000 := ok.ev; simp at h1; omega
 have KM : Hid (∀ w', Mod (fun q => hv.ownBlock = some q) w7 w' → (w'.cell? ⟨g, 3, none⟩ = some hv ∧ w'.cell? ⟨g7, 0, none⟩ = some (.int .i64 (e).ag) ∧ w'.cell? ⟨g7, 1, none⟩ = some (.int .i64 (e).kind) ∧ w'.cell? ⟨g7, 2, none⟩ = some (.bool (e).seq) ∧ w'.cell? ⟨g7, 3, none⟩ = some (.bool (e).nt) ∧ w'.cell? ⟨g7, 4, none⟩ = some (.int .i64 (e).blk) ∧ w'.cell? ⟨g7, 5, none⟩ = some (.int .i64 (e).at_) ∧ w'.cell? ⟨g7, 6, none⟩ = some (.int .i64 (e).size) ∧ w'.cell? ⟨g7, 7, none⟩ = some v.r ∧ w'.cell? ⟨g7, 8, none⟩ = some v.w ∧ w'.cell? ⟨g7, 9, none⟩ = some v.f) ∧ w'.frozen? ⟨g, 3, none⟩ = false) := Lib.hid fun w' M => by
  have hb := x7.blk h.box
  have h5 := M.blk hb (fun hq => by rw [hhv] at hq; exact h.log.row.apart_obj h.box (by decide) hq)
  have h7 := M.blk b7.b (fun hq => by rw [hhv] at hq; have := h.log.row.lt hq; omega)
  rw [← hg, ← hhv] at h5
  exact ⟨by simp [World.cell?, h5, h7], by simp [World.frozen?, h5]⟩
 have HX := Lib.hid (And.intro hw7 (And.intro hg7 x7))
 have HG := Lib.hid hg
 have HHV := Lib.hid hhv
 have HR := Lib.hid h
 have HO := Lib.hid (And.intro ho (And.intro hd ok))
 have H1 : Hid (∀ x ∈ (evArr e v).toList, x.oneCell' = true) := Lib.hid (one10 (Sl.one ho.rd.sl) (Sl.one ho.wr.sl) (Sl.one ho.fr.sl))
 rw [← hg]
 clear h ho hd ok hg hhv hw7 hg7 x7 b7
 unfold evV
 go_enter Tryz.func109, Tryz.ntmps109
 go_upto_region 1 with fail
 rw [← HX.out.1, ← HX.out.2.1]
 clear k1 k2 k3 t1 t2 t3
 refine wp_region_planL [12] [(0, 3), (1, 3), (2, 3), (3, 3), (4, 3), (5, 0), (6, 0), (7, 1), (8, 1), (9, 3), (10, 3), (11, 3), (12, 2)] (fun w' => w'.cell? ⟨g, 3, none⟩ = some hv ∧ w'.cell? ⟨g7, 0, none⟩ = some (.int .i64 (e).ag) ∧ w'.cell? ⟨g7, 1, none⟩ = some (.int .i64 (e).kind) ∧ w'.cell? ⟨g7, 2, none⟩ = some (.bool (e).seq) ∧ w'.cell? ⟨g7, 3, none⟩ = some (.bool (e).nt) ∧ w'.cell? ⟨g7, 4, none⟩ = some (.int .i64 (e).blk) ∧ w'.cell? ⟨g7, 5, none⟩ = some (.int .i64 (e).at_) ∧ w'.cell? ⟨g7, 6, none⟩ = some (.int .i64 (e).size) ∧ w'.cell? ⟨g7, 7, none⟩ = some v.r ∧ w'.cell? ⟨g7, 8, none⟩ = some v.w ∧ w'.cell? ⟨g7, 9, none⟩ = some v.f) (by kernel_rfl) (by kernel_rfl) (by kernel_rfl) (fun _ d _ _ _ h => by cases d <;> exact h) ((KM.out _ (Mod.drew (Mod.refl _ _))).1) ?_
 simp only [planLL, getO]
 iterate 5 (refine planL_pure (v := ?_) (by rfl) (fun wS => ?_) ?_; rotate_left; (focus (go_simp; (try with_reducible rfl); done)); (try simp only [Act.put, List.setIfInBounds_toArray, List.set_cons_zero, List.set_cons_succ]))
 iterate 2 (refine planL_take (v := ?_) (by rfl) (fun wS hS => ?_) ?_; rotate_left; (focus ((try dsimp only at hS); go_simp; (try with_reducible rfl); done)); (try simp only [Act.put, List.setIfInBounds_toArray, List.set_cons_zero, List.set_cons_succ]))
 refine planL_call (fun K hK => ?_)
 go_simp
 skip
 refine hK.out _ _ ((KM.out _ (Ext.mod (Mod.drew (Mod.alloc (Mod.refl _ _) _)) _)).1) ?_
 clear hK K
 (try simp only [Act.put, List.setIfInBounds_toArray, List.set_cons_zero, List.set_cons_succ])
 refine planL_call (fun K hK => ?_)
 refine step_app IRe rfl (.tmp 10) (.tmp 12) rfl (HR.out.log.row.ext (HX.out.2.2.trans (Mod.drew (Mod.alloc (Mod.refl _ _) _)))) (built_sl (n := 1) (g := w7.heap.size) (e := 116) (cs := evArr e v) (by rw [heap_drew, heap_alloc_if]; exact if_pos rfl) rfl (by simp only [maxLen]; omega)) H1.out (by simp [Act.eval, HHV.out]) (by simp [Act.eval]) (by omega) (by simp only [maxLen]; omega) ?_; intro hv9 w9 ol9 gr9 fr9 nn9; obtain ⟨la9, lc9, hlv9, _⟩ := ol9.sl.shape; subst hlv9; have M9 : Mod (fun q => hv.ownBlock = some q) w7 w9 := Mod.grown (Mod.drew (Mod.alloc (Mod.refl _ _) _)) (HHV.out.symm ▸ gr9) (fun q h => .inl h); obtain ⟨⟨e3, -⟩, ef3⟩ := KM.out _ M9
 refine hK.out _ _ ((KM.out _ M9).1) ?_
 clear hK K
 (try simp only [Act.put, List.setIfInBounds_toArray, List.set_cons_zero, List.set_cons_succ])
 iterate 3 (refine planL_pure (v := ?_) (by rfl) (fun wS => ?_) ?_; rotate_left; (focus (go_simp; (try with_reducible rfl); done)); (try simp only [Act.put, List.setIfInBounds_toArray, List.set_cons_zero, List.set_cons_succ]))
 refine planL_late (fun K hK => ?_)
 go_simp
 refine hK.out _ _ ?_
 clear hK K
 (try simp only [Act.put, List.setIfInBounds_toArray, List.set_cons_zero, List.set_cons_succ])
 refine planL_nil ?_
 have F9 : ∀ q, (Value.slice la9 (s.L.ev.length + 1) lc9).ownBlock = some q → z.hv.ownBlock = some q ∨ w.heap.size ≤ q := fun q hq => (fr9 q hq).imp id (fun h => by have h1 := HX.out.2.2.size; (try simp only [World.size_alloc, World.size_drew] at h); omega)
 obtain ⟨P1, P2⟩ := HR.out.push HX.out.2.2 HO.out.1 HO.out.2.1 HO.out.2.2 (HHV.out ▸ M9) ol9 F9
 obtain ⟨W, hW⟩ : ∃ W, W = w9.setCell ⟨z.g, 3, none⟩ (.slice la9 (s.L.ev.length + 1) lc9) := ⟨_, rfl⟩
 rw [← hW] at P1 P2
 rw [show w9.setCell ⟨g, 3, none⟩ (.slice la9 (s.L.ev.length + 1) lc9) = W by rw [hW, HG.out]]
 obtain ⟨_, _, _, c3, _⟩ := P1.cells
 have c3' : W.cell? ⟨g, 3, none⟩ = some (.slice la9 (s.L.ev.length + 1) lc9) := by rw [HG.out]; exact c3
 have HP := Lib.hid (And.intro P1 (And.intro P2 F9))
 clear c3 P1 P2 F9 hW e3 ef3 gr9 fr9 ol9 nn9 M9
 have w1 : IntKind.i64.wrap (((s.L.ev.length + 1 : Nat) : Int) - 1) = (s.L.ev.length : Int) := IntWalk.i64_in _ (by omega) |>.trans (by omega)
 go_wp2_with fail
 go_ret
 obtain ⟨P1, P2, F9⟩ := HP.out
 exact ⟨rfl, _, P1, P2, F9⟩
end Go.Proofs.YtbhocahmhmafmaaGreat
namespace Go.Proofs.YtbhocahmhmafmaaGreat
open Go.Ren Go.RowKit
set_option linter.unusedVariables false
structure RNewRel (w : World) (s : Shm) (g : Nat) (m : Value) (U : Nat → Prop) (hv pv : Value) (V : Nat → Vs) (i : Nat) (wr : World) : Prop where
 ex : ∃ (qv : Value) (qs : Nat → Value) (SQ : Nat → Nat → Prop), wr.heap[g]? = some (.cells #[.int .i64 (s.room : Int), m, qv, hv, pv] 85 (0, 0)) ∧ Own wr 86 1 qv i ((List.range i).map qs) ∧
  (∀ j, j < i → RqAt wr (qs j) s.room (quB s (j : Int)) (SQ j)) ∧ (∀ j k, j < i → SQ j k → k ≠ g ∧ qv.ownBlock ≠ some k ∧ ¬ U k ∧ ¬ LogFp hv pv V s.L.ev.length k ∧ w.heap.size ≤ k) ∧ (∀ j l k, j < i → l < i → j ≠ l → SQ j k → ¬ SQ l k) ∧ (∀ k, qv.ownBlock = some k → w.heap.size ≤ k ∧ ¬ U k) ∧ (i = 0 → qv = .slice none 0 0)
 bl : RefAt wr m s.M U
 lo : RLogOwn wr hv pv V s.L
 md : Ext w wr
 fg : w.heap.size ≤ g ∧ ¬ U g
 fu : ∀ k, U k → w.heap.size ≤ k
 fl : ∀ k, LogFp hv pv V s.L.ev.length k → w.heap.size ≤ k ∧ ¬ U k
theorem RLogOwn.apart_t {w : World} {hv pv : Value} {V : Nat → Vs} {L : Lg} (h : RLogOwn w hv pv V L) {k : Nat} {cs : Array Value} {t : TypeId} (hb : w.heap[k]? = some (.cells cs t (0, 0))) (h1 : 116 ≠ t) (h2 : 112 ≠ t) (h3 : 5 ≠ t) (h4 : 3 ≠ t) : ¬ LogFp hv pv V L.ev.length k := fun hk => by
 rcases hk with hk | hk | ⟨i, hi, hk⟩
 · exact h.row.apart_obj hb h1 hk
 · exact h.prow.apart_obj hb h2 hk
 · exact (h.ev i hi).apart hb h3 h4 hk
theorem RNewRel.push {w wr w1 w2 : World} {s : Shm} {g i pq : Nat} {m qv qv' hv pv : Value} {V : Nat → Vs} {U S : Nat → Prop} {qs : Nat → Value} {SQ : Nat → Nat → Prop} (h0 : wr.heap[g]? = some (.cells #[.int .i64 (s.room : Int), m, qv, hv, pv] 85 (0, 0))) (hr : Own wr 86 1 qv i ((List.range i).map qs))
 (hq : ∀ j, j < i → RqAt wr (qs j) s.room (quB s (j : Int)) (SQ j)) (hf : ∀ j k, j < i → SQ j k → k ≠ g ∧ qv.ownBlock ≠ some k ∧ ¬ U k ∧ ¬ LogFp hv pv V s.L.ev.length k ∧ w.heap.size ≤ k) (hqq : ∀ j l k, j < i → l < i → j ≠ l → SQ j k → ¬ SQ l k) (hqf : ∀ k, qv.ownBlock = some k → w.heap.size ≤ k ∧ ¬ U k)
 (bl : RefAt wr m s.M U) (lo : RLogOwn wr hv pv V s.L) (md : Ext w wr) (fg : w.heap.size ≤ g ∧ ¬ U g) (fu : ∀ k, U k → w.heap.size ≤ k) (fl : ∀ k, LogFp hv pv V s.L.ev.length k → w.heap.size ≤ k ∧ ¬ U k)
 (x1 : Ext wr w1) (Q1 : RqAt w1 (ptr pq) s.room (quB s (i : Int)) S) (f1 : ∀ k, S k → wr.heap.size ≤ k) (M2 : Mod (fun q => qv.ownBlock = some q) w1 w2) (o2 : Own w2 86 1 qv' (i + 1) ((List.range i).map qs ++ [ptr pq])) (f2 : ∀ k, qv'.ownBlock = some k → qv.ownBlock = some k ∨ w1.heap.size ≤ k) :
 RNewRel w s g m U hv pv V (i + 1) (w2.setCell ⟨g, 2, none⟩ qv') := by
 have z1 := x1.blk h0
 have r1 := hr.ext x1
 have z2 := M2.blk z1 (fun h => r1.apart_obj z1 (by decide) h)
 have Ms : Mod (fun q => q = g) w2 (w2.setCell ⟨g, 2, none⟩ qv') := Mod.setCell (F := fun q => q = g) (Mod.refl _ _) (.inl rfl) _
 have MM : Mod (fun q => q = g ∨ qv.ownBlock = some q) wr (w2.setCell ⟨g, 2, none⟩ qv') := ((x1.mod _).trans' M2 (fun q h => .inl (.inr h))).trans' Ms (fun q h => .inl (.inl h))
 have MM1 : Mod (fun q => q = g ∨ qv.ownBlock = some q) w1 (w2.setCell ⟨g, 2, none⟩ qv') := (M2.weak (fun q h => .inl (.inr h))).trans' Ms (fun q h => .inl (.inl h))
 have lap : ∀ k, LogFp hv pv V s.L.ev.length k → ¬ (k = g ∨ qv.ownBlock = some k) := fun k hk hh => by
  rcases hh with e | e
  · subst e; exact lo.apart_t h0 (by decide) (by decide) (by decide) (by decide) hk
  · obtain ⟨cs, hc⟩ := hr.ty e
    exact lo.apart_t hc (by decide) (by decide) (by decide) (by decide) hk
 refine ⟨⟨qv', fun j => if j = i then ptr pq else qs j, fun j => if j = i then S else SQ j, ?_, ?_, fun j hj => ?_, fun j k hj hk => ?_, fun j l k hj hl hne hk => ?_, fun k hk => ?_, fun h => by omega⟩, bl.mod MM (fun k hk hh => hh.elim (fun e => by subst e; exact fg.2 hk) (fun e => (hqf k e).2 hk)), lo.mod MM lap, md.trans' MM (fun q hq => .inr (hq.elim (fun e => by omega) (fun e => (hqf q e).1))), fg, fu, fl⟩
 · simp [World.setCell, Array.getElem?_modify, z2]
 · have e : (List.range (i + 1)).map (fun j => if j = i then ptr pq else qs j) = (List.range i).map qs ++ [ptr pq] := by
    rw [List.range_succ, List.map_append]
    congr 1
    · exact List.map_congr_left fun j hj => by rw [List.mem_range] at hj; rw [if_neg (by omega)]
    · simp
   rw [e]
   exact o2.mod Ms (fun k hk h => by subst h; exact o2.apart_obj z2 (by decide) hk)
 · by_cases e : j = i
   · simp only [e, if_true]
     refine Q1.mod MM1 (fun k hk hh => ?_)
     have h3 := f1 k hk
     rcases hh with e | e
     · have := lt_of_block h0; omega
     · have := hr.lt e; omega
   · simp only [e, if_false]
     refine (hq j (by omega)).mod MM (fun k hk hh => ?_)
     have h3 := hf j k (by omega) hk
     rcases hh with e | e
     · exact h3.1 e
     · exact h3.2.1 e
 · by_cases e : j = i
   · simp only [e, if_true] at hk
     have h3 := f1 k hk
     refine ⟨?_, fun h4 => ?_, fun h4 => ?_, fun h4 => ?_, Nat.le_trans md.size h3⟩
     · have := lt_of_block h0; omega
     · rcases f2 k h4 with h5 | h5
       · have := hr.lt h5; omega
       · have := Q1.lt hk; omega
     · have := bl.lt h4; omega
     · have := lo.lt h4; omega
   · simp only [e, if_false] at hk
     have h3 := hf j k (by omega) hk
     refine ⟨h3.1, fun h4 => ?_, h3.2.2⟩
     rcases f2 k h4 with h5 | h5
     · exact h3.2.1 h5
     · have h6 := (hq j (by omega)).lt hk; have h7 := x1.size; omega
 · have key : ∀ j, j < i → SQ j k → ¬ S k := fun j hj h3 h4 => by have h5 := (hq j hj).lt h3; have h6 := f1 k h4; omega
   by_cases e : j = i
   · have e2 : l ≠ i := by omega
     simp only [e, e2, if_true, if_false] at hk ⊢
     exact fun h3 => key l (by omega) h3 hk
   · by_cases e2 : l = i
     · simp only [e, e2, if_true, if_false] at hk ⊢
       exact key j (by omega) hk
     · simp only [e, e2, if_false] at hk ⊢
       exact hqq j l k (by omega) (by omega) hne hk
 · rcases f2 k hk with h3 | h3
   · exact hqf k h3
   · exact ⟨by have h4 := md.size; have h5 := x1.size; omega, fun h4 => by have h5 := bl.lt h4; have h6 := x1.size; omega⟩
theorem RNewRel.done {w wr : World} {s : Shm} {g i : Nat} {m hv pv : Value} {V : Nat → Vs} {U : Nat → Prop} (h : RNewRel w s g m U hv pv V i wr) (ok : ShOk s) (hi : 0 < s.n → i = s.n) (h0 : s.n = 0 → i = 0) : ∃ z, z.g = g ∧ RsIn wr z s ∧ ∀ k, z.Fp s k → w.heap.size ≤ k := by
 obtain ⟨⟨qv, qs, SQ, b, r, q, f, qq, qf, q0⟩, bl, lo, md, fg, fu, fl⟩ := h
 refine ⟨{ g := g, m := m, qv := qv, hv := hv, pv := pv, qs := qs, V := V, U := U, SQ := SQ }, rfl, ⟨b, bl, fun e => q0 (h0 e), fun e => by have r' := r; rw [hi e] at r'; exact r', fun e j hj => q j (by rw [hi e]; exact hj), lo, fun k hk hu => ?_, fun e j k hj hk => ?_, fun e j l k hj hl => qq j l k (by rw [hi e]; exact hj) (by rw [hi e]; exact hl), ok⟩, fun k hk => ?_⟩
 · rcases hk with h1 | h1 | h1
   · subst h1; exact fg.2 hu
   · exact (qf k h1).2 hu
   · exact (fl k h1).2 hu
 · have h3 := f j k (by rw [hi e]; exact hj) hk
   exact ⟨fun hl => by rcases hl with h4 | h4 | h4; exact h3.1 h4; exact h3.2.1 h4; exact h3.2.2.2.1 h4, h3.2.2.1⟩
 · rcases hk with (h1 | h1 | h1) | hk | ⟨e, j, hj, hk⟩
   · subst h1; exact fg.1
   · exact (qf k h1).1
   · exact (fl k h1).1
   · exact fu k hk
   · exact (f j k (by rw [hi e]; exact hj) hk).2.2.2.2
end Go.Proofs.YtbhocahmhmafmaaGreat
namespace Go.Proofs.YtbhocahmhmafmaaGreat
open Go.Ren Go.RowKit
set_option linter.unusedVariables false
def RsNewPost (n r : Int) (w : World) (e : Ending) (w' : World) : Prop :=
 ((1 ≤ n ∧ n ≤ 64 ∧ 0 ≤ r ∧ r ≤ 64) → ∃ z : RsV, e = .returned (.tuple #[ptr z.g, .int .i64 0]) ∧ RsIn w' z (shNew n.toNat r.toNat) ∧ Ext w w' ∧ ∀ k, z.Fp (shNew n.toNat r.toNat) k → w.heap.size ≤ k) ∧
 (¬ (1 ≤ n ∧ n ≤ 64 ∧ 0 ≤ r ∧ r ≤ 64) → e = .returned (.tuple #[.pointer none, .int .i64 1]) ∧ w = w')
theorem rq_new {w : World} {R : Nat} (hR : R ≤ 64) : RqAt (w.alloc (.cells #[.int .i64 (R : Int), .slice none 0 0] 89)) (ptr w.heap.size) R [] (RqFp w.heap.size (.slice none 0 0) (fun _ => undef) 0) :=
 ⟨_, .slice none 0 0, fun _ => undef, rfl, ⟨heap_alloc_new _ _, Own.nil _ _ _, fun i hi => absurd hi (Nat.not_lt_zero _), fun i k hi => absurd hi (Nat.not_lt_zero _), fun i hi => absurd hi (Nat.not_lt_zero _), hR, Nat.zero_le _⟩, fun k => Iff.rfl⟩
theorem rq_new_fp {g k : Nat} (h : RqFp g (.slice none 0 0) (fun _ => undef) 0 k) : g ≤ k := by
 rcases h with h | h | ⟨i, hi, _⟩
 · omega
 · cases h
 · exact absurd hi (Nat.not_lt_zero _)
set_option maxRecDepth 100000 in
set_option maxHeartbeats 1600000 in
theorem rsnew_any (w : World) (n r : Int) : Calls Tryz.prog 8 #[.int .i64 n, .int .i64 r] w (RsNewPost n r w) := by
 by_cases hg : 1 ≤ n ∧ n ≤ 64 ∧ 0 ≤ r ∧ r ≤ 64
 case neg =>
  refine Calls.mono (R := fun e w' => e = .returned (.tuple #[.pointer none, .int .i64 1]) ∧ w = w') ?_ (fun e w' h => ⟨fun h' => absurd h' hg, fun _ => h⟩)
  rcases (by omega : n < 1 ∨ (¬ n < 1 ∧ 64 < n) ∨ (¬ n < 1 ∧ ¬ 64 < n ∧ r < 0) ∨ (¬ n < 1 ∧ ¬ 64 < n ∧ ¬ r < 0 ∧ 64 < r)) with z | ⟨z, z2⟩ | ⟨z, z2, z3⟩ | ⟨z, z2, z3, z4⟩
  all_goals
   clear hg
   go_enter Tryz.func8, Tryz.ntmps8
   go_wp2_with fail
   go_ret2
   exact ⟨rfl, rfl⟩
 case pos =>
  obtain ⟨N, rfl⟩ := Int.eq_ofNat_of_zero_le (show 0 ≤ n by omega)
  obtain ⟨R, rfl⟩ := Int.eq_ofNat_of_zero_le (show 0 ≤ r by omega)
  refine Calls.mono (R := fun e w' => ∃ z : RsV, e = .returned (.tuple #[ptr z.g, .int .i64 0]) ∧ RsIn w' z (shNew N R) ∧ Ext w w' ∧ ∀ k, z.Fp (shNew N R) k → w.heap.size ≤ k) ?_ (fun e w' h => ⟨fun _ => h, fun h' => absurd hg h'⟩)
  have z1 : ¬ (N : Int) < 1 := by omega
  have z2 : ¬ (64 : Int) < (N : Int) := by omega
  have z3 : ¬ (R : Int) < 0 := by omega
  have z4 : ¬ (64 : Int) < (R : Int) := by omega
  have HN : Hid ((1 ≤ N ∧ N ≤ 64) ∧ R ≤ 64) := Lib.hid (by omega)
  clear hg
  obtain ⟨w1, hw1⟩ : ∃ W, W = w.alloc (.cells #[.slice none 0 0, .slice none 0 0] 82) := ⟨_, rfl⟩
  obtain ⟨pb, hpb⟩ : ∃ g, g = w.heap.size := ⟨_, rfl⟩
  have x1 : Ext w w1 := by rw [hw1]; exact (Mod.refl _ _).alloc _
  have B1 : RefAt w1 (ptr pb) [] (RefFp pb (.slice none 0 0) (.slice none 0 0) (fun _ => undef) (fun _ => undef) 0) :=
   ⟨_, .slice none 0 0, .slice none 0 0, fun _ => undef, fun _ => undef, rfl, ⟨by rw [hw1, hpb]; exact heap_alloc_new _ _, Own.nil _ _ _, Own.nil _ _ _, fun i hi => absurd hi (Nat.not_lt_zero _), fun i hi => absurd hi (Nat.not_lt_zero _), fun i j k hi => absurd hi (Nat.not_lt_zero _), fun i j k hi => absurd hi (Nat.not_lt_zero _), bok_nil⟩, fun k => Iff.rfl⟩
  obtain ⟨U, hU⟩ : ∃ U, U = RefFp pb (.slice none 0 0) (.slice none 0 0) (fun _ => undef) (fun _ => undef) 0 := ⟨_, rfl⟩
  have f1 : ∀ k, U k → w.heap.size ≤ k := fun k hk => by
   rw [hU] at hk
   rcases hk with h | h | h | ⟨i, hi, _⟩
   · omega
   · cases h
   · cases h
   · exact absurd hi (Nat.not_lt_zero _)
  rw [← hU] at B1
  obtain ⟨w2, hw2⟩ : ∃ W, W = w1.alloc (.cells #[.int .i64 (R : Int), .pointer (some ⟨pb, 0, none⟩), .slice none 0 0, .slice none 0 0, .slice none 0 0] 85) := ⟨_, rfl⟩
  obtain ⟨g, hg⟩ : ∃ g, g = w1.heap.size := ⟨_, rfl⟩
  have x2 : Ext w1 w2 := by rw [hw2]; exact (Mod.refl _ _).alloc _
  have R0 : RNewRel w (shNew N R) g (.pointer (some ⟨pb, 0, none⟩)) U (.slice none 0 0) (.slice none 0 0) (fun _ => ⟨undef, undef, undef⟩) 0 w2 := ⟨⟨.slice none 0 0, fun _ => undef, fun _ _ => False, by rw [hw2, hg]; exact heap_alloc_new _ _, Own.nil _ _ _, fun j h => absurd h (Nat.not_lt_zero _), fun j k h => absurd h (Nat.not_lt_zero _), fun j l k h => absurd h (Nat.not_lt_zero _), fun k hk => (by cases hk), fun _ => rfl⟩, B1.ext x2, ⟨Own.nil _ _ _, fun i h => absurd h (Nat.not_lt_zero _), Own.nil _ _ _⟩, x1.trans x2, ⟨by rw [hg]; exact x1.size, fun hu => by have := B1.lt hu; omega⟩, f1, fun k hk => (by rcases hk with hk | hk | ⟨i, hi, _⟩; cases hk; cases hk; exact absurd hi (Nat.not_lt_zero _))⟩
  have HW1 := Lib.hid (And.intro hw1 hpb)
  have HG1 : Hid (pb + 1 = g) := Lib.hid (by rw [hg, hw1, World.size_alloc, hpb])
  have HW := Lib.hid (And.intro hw2 hg)
  have H0 := Lib.hid R0
  clear hw2 hg x2 R0 B1 x1 f1 hw1 hpb hU
  go_enter Tryz.func8, Tryz.ntmps8
  go_upto_region 4 with fail
  rw [← HW1.out.1, ← HW1.out.2, ← HW.out.1, HG1.out]
  clear z1 z2 z3 z4
  go_wp2_with fail
  go_loopw [7] (fun s7 wr => ∃ i : Nat, i ≤ N ∧ s7 = .int .i64 (i : Int) ∧ RNewRel w (shNew N R) g (.pointer (some ⟨pb, 0, none⟩)) U (.slice none 0 0) (.slice none 0 0) (fun _ => ⟨undef, undef, undef⟩) i wr) (fun i _ => N - (intOf i).toNat)
  case atStart => exact ⟨0, Nat.zero_le _, rfl, H0.out⟩
  case round =>
   obtain ⟨i, hi, rfl, hrel⟩ := hrel
   have HR := Lib.hid hrel
   clear hrel
   by_cases hlt : i < N
   · have hlt' : (i : Int) < (N : Int) := by omega
     obtain ⟨w3, hw3⟩ : ∃ W, W = wr.alloc (.cells #[.int .i64 (R : Int), .slice none 0 0] 89) := ⟨_, rfl⟩
     obtain ⟨pq, hpq⟩ : ∃ g, g = wr.heap.size := ⟨_, rfl⟩
     have x3 : Ext wr w3 := by rw [hw3]; exact (Mod.refl _ _).alloc _
     have Q1 : RqAt w3 (ptr pq) R [] (RqFp pq (.slice none 0 0) (fun _ => undef) 0) := by rw [hw3, hpq]; exact rq_new HN.out.2
     have f3 : ∀ k, RqFp pq (.slice none 0 0) (fun _ => undef) 0 k → wr.heap.size ≤ k := fun k hk => by have := rq_new_fp hk; omega
     have HW3 := Lib.hid (And.intro hw3 (And.intro hpq (show pq + 1 = w3.heap.size by rw [hw3, World.size_alloc, hpq])))
     clear hw3 hpq
     obtain ⟨⟨qv, qs, SQ, b, r, q, f, qq, qf, q0⟩, bl, lo, md, fg, fu, fl⟩ := HR.out
     have b3 := x3.blk b
     have c0 : wr.cell? ⟨g, 2, none⟩ = some qv := by simp [World.cell?, b]
     have c2 : w3.cell? ⟨g, 2, none⟩ = some qv := by simp [World.cell?, b3]
     have n2 : w3.frozen? ⟨g, 2, none⟩ = false := by simp [World.frozen?, b3]
     have KM : Hid (∀ w', Mod (fun q => qv.ownBlock = some q) w3 w' → w'.cell? ⟨g, 2, none⟩ = some qv ∧ w'.frozen? ⟨g, 2, none⟩ = false) := Lib.hid fun w' M => by
      have h5 := M.blk b3 (fun h => (r.ext x3).apart_obj b3 (by decide) h)
      exact ⟨by simp [World.cell?, h5], by simp [World.frozen?, h5]⟩
     have HF : Hid (∀ (w2 : World) (qv' : Value), Mod (fun q => qv.ownBlock = some q) w3 w2 → Own w2 86 1 qv' (i + 1) ((List.range i).map qs ++ [ptr pq]) → (∀ k, qv'.ownBlock = some k → qv.ownBlock = some k ∨ w3.heap.size ≤ k) → RNewRel w (shNew N R) g (.pointer (some ⟨pb, 0, none⟩)) U (.slice none 0 0) (.slice none 0 0) (fun _ => ⟨undef, undef, undef⟩) (i + 1) (w2.setCell ⟨g, 2, none⟩ qv')) := Lib.hid fun w2 qv' M o f' => RNewRel.push b r q f qq qf bl lo md fg fu fl x3 (by rw [new_quB]; exact Q1) f3 M o f'
     have HO := Lib.hid (r.ext x3)
     have hl64 : (i : Int) ≤ 64 := by have := HN.out; omega
     have one1 : ∀ x ∈ [Value.pointer (some ⟨pq, 0, none⟩)], x.oneCell' = true := by intro x hx; rw [List.mem_singleton.1 hx]; rfl
     have HB3 := Lib.hid b3
     clear b r q f qq qf q0 bl lo md fg fu fl Q1 x3 f3 b3
     go_wp2_with (at_builtin; (rw [← HW3.out.1, ← HW3.out.2.1]); (try rw [HW3.out.2.2]); refine wpList_app IQR rfl (.tmp 36) (.tmp 40) rfl (HO.out.ext ?_) (built_sl (n := 1) (g := w3.heap.size) (e := 86) (cs := #[.pointer (some ⟨pq, 0, none⟩)]) ?_ rfl (by simp only [maxLen]; omega)) one1 rfl rfl (by omega) (by simp only [maxLen]; omega) ?_; (repeat (first | exact Mod.refl _ _ | apply Mod.drew | apply Mod.alloc)); (rw [heap_alloc_if, if_pos rfl]); intro v' w' ho hgr hfr hnn; obtain ⟨la, lc, hlv, _⟩ := ho.sl.shape; subst hlv; have M4 : Mod (fun q => qv.ownBlock = some q) w3 w' := Mod.grown (by repeat (first | exact Mod.refl _ _ | apply Mod.drew | apply Mod.alloc)) hgr (fun q h => .inl h); obtain ⟨e2, en2⟩ := KM.out _ M4; have F2 : ∀ k, (Value.slice la (i + 1) lc).ownBlock = some k → qv.ownBlock = some k ∨ w3.heap.size ≤ k := fun k hk => (hfr k hk).imp id (fun h => by (try simp only [World.size_alloc] at h); omega); have HX := Lib.hid (And.intro M4 (And.intro ho F2)); clear M4 ho F2 hgr hfr hnn c2 n2 c0)
     go_roundw
     case rel => exact ⟨i + 1, by omega, by go_num, HF.out _ _ HX.out.1 HX.out.2.1 HX.out.2.2⟩
     case measure => simp [intOf]; omega
   · have hlt' : ¬ (i : Int) < (N : Int) := by omega
     obtain rfl : i = N := by omega
     go_wp2_with fail
     go_ret2
     obtain ⟨z, e1, h1, h2⟩ := HR.out.done (ok_new HN.out.1 HN.out.2) (fun _ => rfl) (fun h => h)
     exact ⟨z, by rw [e1]; rfl, h1, HR.out.md, h2⟩
end Go.Proofs.YtbhocahmhmafmaaGreat
