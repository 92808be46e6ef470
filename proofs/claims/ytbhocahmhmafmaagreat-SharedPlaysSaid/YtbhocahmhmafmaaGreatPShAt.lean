/-
  The shared memory in memory: its box, its blocks, its buffers, its log, all apart. No condition. The contracts of the small functions of package shared: kind, agent, full, check, drain, queue. No condition. The contracts of (*shared.Shared).drain and queue, Flush, Tear, Pending, Make, Bytes. No condition. The contracts of (*shared.Shared).queue, Flush, Tear, Pending, Make, Bytes, Log. No condition.
-/
import Derived.Test.YtbhocahmhmafmaaGreatPElemAt
import Derived.Test.YtbhocahmhmafmaaGreatPFifoDelete
import Derived.Test.YtbhocahmhmafmaaGreatPFifoAt
import Derived.Test.YtbhocahmhmafmaaGreatPBlkAt
import Derived.Test.YtbhocahmhmafmaaGreatPEvCopied
import Derived.Test.YtbhocahmhmafmaaGreatPElemBytes
namespace Go.Proofs.YtbhocahmhmafmaaGreat
open Go.Ren Go.RowKit
set_option linter.unusedVariables false
theorem IQS : EInfo Tryz.prog 73 76 1 8 (.pointer none) := ⟨Tryz.underlying73, by kernel_rfl, rfl, by decide⟩
structure ShV where
 g : Nat
 m : Value
 qv : Value
 hv : Value
 pv : Value
 qs : Nat → Value
 V : Nat → Vs
 U : Nat → Prop
 SQ : Nat → Nat → Prop
def ShV.Lf (z : ShV) (n : Nat) (k : Nat) : Prop := k = z.g ∨ z.qv.ownBlock = some k ∨ LogFp z.hv z.pv z.V n k
def ShV.Fp (z : ShV) (s : Shm) (k : Nat) : Prop := z.Lf s.L.ev.length k ∨ z.U k ∨ (0 < s.room ∧ ∃ i, i < s.n ∧ z.SQ i k)
structure ShIn (w : World) (z : ShV) (s : Shm) : Prop where
 box : w.heap[z.g]? = some (.cells #[.int .i64 (s.n : Int), z.m, z.qv, z.hv, z.pv] 75 (0, 0))
 blks : BlocksAt w z.m s.M z.U
 noq : s.room = 0 → z.qv = .slice none 0 0
 qrow : 0 < s.room → Own w 76 1 z.qv s.n ((List.range s.n).map z.qs)
 qat : 0 < s.room → ∀ i, i < s.n → QueueAt w (z.qs i) s.room (quB s (i : Int)) (z.SQ i)
 log : LogOwn w z.hv z.pv z.V s.L
 lu : ∀ k, z.Lf s.L.ev.length k → ¬ z.U k
 lq : 0 < s.room → ∀ i k, i < s.n → z.SQ i k → ¬ z.Lf s.L.ev.length k ∧ ¬ z.U k
 qq : 0 < s.room → ∀ i j k, i < s.n → j < s.n → i ≠ j → z.SQ i k → ¬ z.SQ j k
 ok : ShOk s
theorem LogOwn.lt {w : World} {hv pv : Value} {V : Nat → Vs} {L : Lg} (h : LogOwn w hv pv V L) {k : Nat} (hk : LogFp hv pv V L.ev.length k) : k < w.heap.size := by
 rcases hk with hk | hk | ⟨i, hi, hk⟩
 · exact h.row.lt hk
 · exact h.prow.lt hk
 · exact (h.ev i hi).lt hk
theorem LogOwn.mod {F : Nat → Prop} {w w' : World} {hv pv : Value} {V : Nat → Vs} {L : Lg} (h : LogOwn w hv pv V L) (m : Mod F w w') (hF : ∀ k, LogFp hv pv V L.ev.length k → ¬ F k) : LogOwn w' hv pv V L :=
 ⟨h.row.mod m fun k hk => hF k (.inl hk), fun i hi => (h.ev i hi).mod m fun k hk => hF k (.inr (.inr ⟨i, hi, hk⟩)), h.prow.mod m fun k hk => hF k (.inr (.inl hk))⟩
theorem ShIn.lt_l {w : World} {z : ShV} {s : Shm} (h : ShIn w z s) {k : Nat} (hk : z.Lf s.L.ev.length k) : k < w.heap.size := by
 rcases hk with rfl | hk | hk
 · exact lt_of_block h.box
 · rcases Nat.eq_zero_or_pos s.room with h0 | h0
   · rw [h.noq h0] at hk; cases hk
   · exact (h.qrow h0).lt hk
 · exact h.log.lt hk
theorem ShIn.lt {w : World} {z : ShV} {s : Shm} (h : ShIn w z s) {k : Nat} (hk : z.Fp s k) : k < w.heap.size := by
 rcases hk with hk | hk | ⟨h0, i, hi, hk⟩
 · exact h.lt_l hk
 · exact h.blks.lt hk
 · exact (h.qat h0 i hi).lt hk
theorem ShIn.mod {F : Nat → Prop} {w w' : World} {z : ShV} {s : Shm} (h : ShIn w z s) (m : Mod F w w') (hF : ∀ k, z.Fp s k → ¬ F k) : ShIn w' z s :=
 ⟨m.blk h.box (hF _ (.inl (.inl rfl))), h.blks.mod m fun k hk => hF k (.inr (.inl hk)), h.noq, fun h0 => (h.qrow h0).mod m fun k hk => hF k (.inl (.inr (.inl hk))),
  fun h0 i hi => (h.qat h0 i hi).mod m fun k hk => hF k (.inr (.inr ⟨h0, i, hi, hk⟩)), h.log.mod m fun k hk => hF k (.inl (.inr (.inr hk))), h.lu, h.lq, h.qq, h.ok⟩
theorem ShIn.ext {w w' : World} {z : ShV} {s : Shm} (h : ShIn w z s) (x : Ext w w') : ShIn w' z s := h.mod x fun _ _ h => h
def ShTo (z : ShV) (s s' : Shm) (w w' : World) : Prop := ∃ z', z'.g = z.g ∧ ShIn w' z' s' ∧ Mod (z.Fp s) w w' ∧ ∀ k, z'.Fp s' k → z.Fp s k ∨ w.heap.size ≤ k
theorem ShIn.to {w w' : World} {z : ShV} {s : Shm} (h : ShIn w z s) (x : Ext w w') : ShTo z s s w w' := ⟨z, rfl, h.ext x, x.mod _, fun k hk => .inl hk⟩
theorem ShTo.trans {z z' : ShV} {s s' s'' : Shm} {w w' w'' : World} (hg : z'.g = z.g) (m : Mod (z.Fp s) w w') (f : ∀ k, z'.Fp s' k → z.Fp s k ∨ w.heap.size ≤ k) (h2 : ShTo z' s' s'' w' w'') : ShTo z s s'' w w'' := by
 obtain ⟨y, g2, h3, m2, f2⟩ := h2
 refine ⟨y, g2.trans hg, h3, m.trans' m2 f, fun k hk => ?_⟩
 rcases f2 k hk with h | h
 · exact f k h
 · exact .inr (Nat.le_trans m.size h)
def updS (f : Nat → Nat → Prop) (i : Nat) (S : Nat → Prop) : Nat → Nat → Prop := fun j => if j = i then S else f j
theorem updS_same (f : Nat → Nat → Prop) (i : Nat) (S : Nat → Prop) : updS f i S i = S := by simp [updS]
theorem updS_ne {f : Nat → Nat → Prop} {i j : Nat} {S : Nat → Prop} (h : j ≠ i) : updS f i S j = f j := by simp [updS, h]
theorem ShIn.setQ {w w' : World} {z : ShV} {s : Shm} (h : ShIn w z s) {i : Nat} (hi : i < s.n) (h0 : 0 < s.room) {E' : List Ent} {S' : Nat → Prop} {M' : List Blk} (hq : QueueAt w' (z.qs i) s.room E' S') (hm : BlocksAt w' z.m M' z.U)
 (md : Mod (fun k => z.SQ i k ∨ z.U k) w w') (fs : ∀ k, S' k → z.SQ i k ∨ w.heap.size ≤ k) (ok : ShOk ⟨s.n, s.room, M', s.Q.set i E', s.L⟩) :
 ShIn w' { z with SQ := updS z.SQ i S' } ⟨s.n, s.room, M', s.Q.set i E', s.L⟩ := by
 have hnl : ∀ k, z.Lf s.L.ev.length k → ¬ (z.SQ i k ∨ z.U k) := fun k hk hh => hh.elim (fun h1 => (h.lq h0 i k hi h1).1 hk) (fun h1 => h.lu k hk h1)
 have hl2 : ∀ k, S' k → ¬ z.Lf s.L.ev.length k ∧ ¬ z.U k := fun k hk => by
  rcases fs k hk with h1 | h1
  · exact h.lq h0 i k hi h1
  · exact ⟨fun h2 => by have := h.lt_l h2; omega, fun h2 => by have := h.blks.lt h2; omega⟩
 have hql : i < s.Q.length := by rw [h.ok.ql]; exact hi
 refine ⟨md.blk h.box (hnl _ (.inl rfl)), hm, h.noq, fun _ => (h.qrow h0).mod md fun k hk => hnl k (.inr (.inl hk)), fun _ j hj => ?_, h.log.mod md fun k hk => hnl k (.inr (.inr hk)), h.lu, fun _ j k hj hk => ?_, fun _ j l k hj hl hne hk => ?_, ok⟩
 · rw [quB_set hql]
   by_cases e : j = i
   · subst e; rw [if_pos rfl]; show QueueAt w' (z.qs j) s.room E' (updS z.SQ j S' j); rw [updS_same]; exact hq
   · rw [if_neg e]; show QueueAt w' (z.qs j) s.room _ (updS z.SQ i S' j); rw [updS_ne e]
     exact (h.qat h0 j hj).mod md fun k hk hh => hh.elim (fun h1 => h.qq h0 j i k hj hi e hk h1) (fun h1 => (h.lq h0 j k hj hk).2 h1)
 · by_cases e : j = i
   · subst e; rw [show ({ z with SQ := updS z.SQ j S' } : ShV).SQ j = S' from updS_same _ _ _] at hk; exact hl2 k hk
   · rw [show ({ z with SQ := updS z.SQ i S' } : ShV).SQ j = z.SQ j from updS_ne e] at hk; exact h.lq h0 j k hj hk
 · have key : ∀ j, j < s.n → j ≠ i → z.SQ j k → ¬ S' k := fun j hj hne h1 h2 => by
    rcases fs k h2 with h3 | h3
    · exact h.qq h0 j i k hj hi hne h1 h3
    · have := (h.qat h0 j hj).lt h1; omega
   by_cases e : j = i
   · subst e
     have e2 : l ≠ j := fun h => hne h.symm
     rw [show ({ z with SQ := updS z.SQ j S' } : ShV).SQ j = S' from updS_same _ _ _] at hk
     rw [show ({ z with SQ := updS z.SQ j S' } : ShV).SQ l = z.SQ l from updS_ne e2]
     exact fun h1 => key l hl e2 h1 hk
   · rw [show ({ z with SQ := updS z.SQ i S' } : ShV).SQ j = z.SQ j from updS_ne e] at hk
     by_cases e2 : l = i
     · subst e2; rw [show ({ z with SQ := updS z.SQ l S' } : ShV).SQ l = S' from updS_same _ _ _]; exact key j hj e hk
     · rw [show ({ z with SQ := updS z.SQ i S' } : ShV).SQ l = z.SQ l from updS_ne e2]; exact h.qq h0 j l k hj hl hne hk
theorem ShIn.setQ_to {w w' : World} {z : ShV} {s : Shm} (h : ShIn w z s) {i : Nat} (hi : i < s.n) (h0 : 0 < s.room) {E' : List Ent} {S' : Nat → Prop} {M' : List Blk} (hq : QueueAt w' (z.qs i) s.room E' S') (hm : BlocksAt w' z.m M' z.U)
 (md : Mod (fun k => z.SQ i k ∨ z.U k) w w') (fs : ∀ k, S' k → z.SQ i k ∨ w.heap.size ≤ k) (ok : ShOk ⟨s.n, s.room, M', s.Q.set i E', s.L⟩) :
 ShTo z s ⟨s.n, s.room, M', s.Q.set i E', s.L⟩ w w' := by
 refine ⟨{ z with SQ := updS z.SQ i S' }, rfl, h.setQ hi h0 hq hm md fs ok, md.weak (fun k hk => .inl (hk.elim (fun h1 => .inr (.inr ⟨h0, i, hi, h1⟩)) (fun h1 => .inr (.inl h1)))), fun k hk => ?_⟩
 rcases hk with hk | hk | ⟨_, j, hj, hk⟩
 · exact .inl (.inl hk)
 · exact .inl (.inr (.inl hk))
 · by_cases e : j = i
   · subst e
     rw [show ({ z with SQ := updS z.SQ j S' } : ShV).SQ j = S' from updS_same _ _ _] at hk
     exact (fs k hk).imp (fun h1 => .inr (.inr ⟨h0, j, hj, h1⟩)) id
   · rw [show ({ z with SQ := updS z.SQ i S' } : ShV).SQ j = z.SQ j from updS_ne e] at hk
     exact .inl (.inr (.inr ⟨h0, j, hj, hk⟩))
def ShQ (z : ShV) (s s' : Shm) (w w' : World) : Prop := ∃ SQ', ShIn w' { z with SQ := SQ' } s' ∧ s'.n = s.n ∧ s'.room = s.room ∧ s'.L = s.L ∧ Mod (fun k => z.U k ∨ (0 < s.room ∧ ∃ i, i < s.n ∧ z.SQ i k)) w w' ∧ ∀ i k, i < s.n → SQ' i k → z.SQ i k ∨ w.heap.size ≤ k
theorem ShIn.q_refl {w w' : World} {z : ShV} {s : Shm} (h : ShIn w z s) (x : Ext w w') : ShQ z s s w w' := ⟨z.SQ, h.ext x, rfl, rfl, rfl, x.mod _, fun i k _ hk => .inl hk⟩
theorem ShIn.setQ_q {w w' : World} {z : ShV} {s : Shm} (h : ShIn w z s) {i : Nat} (hi : i < s.n) (h0 : 0 < s.room) {E' : List Ent} {S' : Nat → Prop} {M' : List Blk} (hq : QueueAt w' (z.qs i) s.room E' S') (hm : BlocksAt w' z.m M' z.U)
 (md : Mod (fun k => z.SQ i k ∨ z.U k) w w') (fs : ∀ k, S' k → z.SQ i k ∨ w.heap.size ≤ k) (ok : ShOk ⟨s.n, s.room, M', s.Q.set i E', s.L⟩) :
 ShQ z s ⟨s.n, s.room, M', s.Q.set i E', s.L⟩ w w' := by
 refine ⟨updS z.SQ i S', h.setQ hi h0 hq hm md fs ok, rfl, rfl, rfl, md.weak (fun k hk => .inl (hk.elim (fun h1 => .inr ⟨h0, i, hi, h1⟩) .inl)), fun j k hj hk => ?_⟩
 by_cases e : j = i
 · subst e; rw [updS_same] at hk; exact fs k hk
 · rw [updS_ne e] at hk; exact .inl hk
theorem ShQ.to {w w' : World} {z : ShV} {s s' : Shm} (h : ShQ z s s' w w') : ShTo z s s' w w' := by
 obtain ⟨SQ', h1, hn, hr, hl, m1, f1⟩ := h
 refine ⟨{ z with SQ := SQ' }, rfl, h1, m1.weak (fun k hk => .inl (.inr (hk.imp id id))), fun k hk => ?_⟩
 rcases hk with hk | hk | ⟨h0, i, hi, hk⟩
 · have hk' : z.Lf s'.L.ev.length k := hk
   rw [hl] at hk'
   exact .inl (.inl hk')
 · exact .inl (.inr (.inl hk))
 · rw [hn] at hi
   rw [hr] at h0
   exact (f1 i k hi hk).imp (fun h2 => .inr (.inr ⟨h0, i, hi, h2⟩)) id
theorem ShIn.setM {w w' : World} {z : ShV} {s : Shm} (h : ShIn w z s) {M' : List Blk} {U' : Nat → Prop} (hm : BlocksAt w' z.m M' U') (md : Mod z.U w w') (fs : ∀ k, U' k → z.U k ∨ w.heap.size ≤ k) (ok : ShOk ⟨s.n, s.room, M', s.Q, s.L⟩) :
 ShIn w' { z with U := U' } ⟨s.n, s.room, M', s.Q, s.L⟩ :=
 ⟨md.blk h.box (h.lu _ (.inl rfl)), hm, h.noq, fun h0 => (h.qrow h0).mod md fun k hk => h.lu k (.inr (.inl hk)), fun h0 i hi => (h.qat h0 i hi).mod md fun k hk => (h.lq h0 i k hi hk).2, h.log.mod md fun k hk => h.lu k (.inr (.inr hk)),
  fun k hk hu => (fs k hu).elim (fun h1 => h.lu k hk h1) (fun h1 => by have := h.lt_l hk; omega),
  fun h0 i k hi hk => ⟨(h.lq h0 i k hi hk).1, fun hu => (fs k hu).elim (fun h1 => (h.lq h0 i k hi hk).2 h1) (fun h1 => by have := (h.qat h0 i hi).lt hk; omega)⟩, h.qq, ok⟩
theorem ShIn.setM_to {w w' : World} {z : ShV} {s : Shm} (h : ShIn w z s) {M' : List Blk} {U' : Nat → Prop} (hm : BlocksAt w' z.m M' U') (md : Mod z.U w w') (fs : ∀ k, U' k → z.U k ∨ w.heap.size ≤ k) (ok : ShOk ⟨s.n, s.room, M', s.Q, s.L⟩) :
 ShTo z s ⟨s.n, s.room, M', s.Q, s.L⟩ w w' := by
 refine ⟨{ z with U := U' }, rfl, h.setM hm md fs ok, md.weak (fun k hk => .inl (.inr (.inl hk))), fun k hk => ?_⟩
 rcases hk with hk | hk | hk
 · exact .inl (.inl hk)
 · exact (fs k hk).imp (fun h1 => .inr (.inl h1)) id
 · exact .inl (.inr (.inr hk))
theorem ShIn.cells {w : World} {z : ShV} {s : Shm} (h : ShIn w z s) : w.cell? ⟨z.g, 0, none⟩ = some (.int .i64 (s.n : Int)) ∧ w.cell? ⟨z.g, 1, none⟩ = some z.m ∧ w.cell? ⟨z.g, 2, none⟩ = some z.qv ∧ w.cell? ⟨z.g, 3, none⟩ = some z.hv ∧ w.cell? ⟨z.g, 4, none⟩ = some z.pv := by
 simp [World.cell?, h.box]
theorem ShIn.qcell {w : World} {z : ShV} {s : Shm} (h : ShIn w z s) (h0 : 0 < s.room) {i : Nat} (hi : i < s.n) : w.cell? (at_ z.qv i) = some (z.qs i) := (h.qrow h0).sl.cell i _ (by simp [hi])
theorem ShIn.qnil {w : World} {z : ShV} {s : Shm} (h : ShIn w z s) (h0 : 0 < s.room) : nilS z.qv = false := by
 have h1 := h.qrow h0
 rcases h1.2 with ⟨h2, h3⟩ | ⟨g, cap, cur, h2, _⟩
 · have := h.ok.n1; omega
 · rw [h2]; rfl
end Go.Proofs.YtbhocahmhmafmaaGreat
namespace Go.Ren
open Go.RowKit
theorem Sl.run_notnil {P : Program} {T E : TypeId} {w : World} {v : Value} {sz n : Nat} {xs : List Value} (h : Sl w v sz n xs) (hT : P.underlying T = some (.slice E)) (w' : World) : (binOp .neq T v (.slice none 0 0)).run P w' = .ok (.bool (!nilS v)) w' := by
 obtain ⟨a, c, rfl, h1, h2, h3⟩ := h.shape
 rw [run_neq_slice_nil_any w' T E a n c 0 0 hT]
 cases a <;> rfl
end Go.Ren
namespace Go.Proofs.YtbhocahmhmafmaaGreat
open Go.Ren Go.RowKit
set_option linter.unusedVariables false
abbrev ptr (g : Nat) : Value := .pointer (some ⟨g, 0, none⟩)
set_option maxRecDepth 100000 in
theorem shkind_any (w : World) (s : Int) : Calls Tryz.prog 39 #[.int .i64 s] w fun e w' => e = .returned (.int .i64 (kindC s)) ∧ w = w' := by
 by_cases hk : s = 1 ∨ s = 2 ∨ s = 4 ∨ s = 8
 · rcases hk with rfl | rfl | rfl | rfl
   all_goals
    go_enter Tryz.func39, Tryz.ntmps39
    go_wp2
    go_ret
    exact ⟨rfl, rfl⟩
 · have h0 : Hid (kindC s = 0) := Lib.hid (by unfold kindC; rw [if_neg (by omega), if_neg (by omega), if_neg (by omega), if_neg (by omega)])
   have a1 : (s == 1) = false := by simp; omega
   have a2 : (s == 2) = false := by simp; omega
   have a4 : (s == 4) = false := by simp; omega
   have a8 : (s == 8) = false := by simp; omega
   clear hk
   go_enter Tryz.func39, Tryz.ntmps39
   go_wp2
   go_ret
   rw [h0.out]
   exact ⟨rfl, rfl⟩
theorem shagent_any (w : World) (z : ShV) (s : Shm) (h : ShIn w z s) (a : Int) : Calls Tryz.prog 92 #[ptr z.g, .int .i64 a] w fun e w' => e = .returned (.bool (agB s a)) ∧ w = w' := by
 obtain ⟨c0, _⟩ := h.cells
 obtain ⟨n, hn⟩ : ∃ n, n = s.n := ⟨_, rfl⟩
 obtain ⟨g, hg⟩ : ∃ g, g = z.g := ⟨_, rfl⟩
 have HN := Lib.hid hn
 rw [← hn, ← hg] at c0
 rw [← hg]
 clear hn hg h
 by_cases h1 : 0 ≤ a
 · go_enter Tryz.func92, Tryz.ntmps92
   go_wp2
   go_ret
   exact ⟨ret_bool (by rw [Bool.eq_iff_iff]; unfold agB; rw [← HN.out]; simp [h1]), rfl⟩
 · go_enter Tryz.func92, Tryz.ntmps92
   go_wp2
   go_ret
   exact ⟨ret_bool (by rw [Bool.eq_iff_iff]; unfold agB; simp; omega), rfl⟩
theorem shfull_any (w : World) (z : ShV) (s : Shm) (h : ShIn w z s) : Calls Tryz.prog 37 #[ptr z.g] w fun e w' => e = .returned (.bool (decide (1000 ≤ s.L.ev.length))) ∧ w = w' := by
 obtain ⟨_, _, _, c3, _⟩ := h.cells
 have l3 := h.log.row.sl.run_len (P := Tryz.prog) IEv.und 3
 obtain ⟨n, hn⟩ : ∃ n, n = s.L.ev.length := ⟨_, rfl⟩
 obtain ⟨g, hg⟩ : ∃ g, g = z.g := ⟨_, rfl⟩
 obtain ⟨hv, hhv⟩ : ∃ g, g = z.hv := ⟨_, rfl⟩
 rw [← hhv, ← hn] at l3
 rw [← hhv, ← hg] at c3
 rw [← hg, ← hn]
 clear hn hg hhv h
 go_enter Tryz.func37, Tryz.ntmps37
 go_wp2
 go_ret
 exact ⟨ret_bool (by rw [Bool.eq_iff_iff]; simp; omega), rfl⟩
theorem shcheck_any (w : World) (z : ShV) (s : Shm) (h : ShIn w z s) (ag k a size : Int) : Calls Tryz.prog 36 #[ptr z.g, .int .i64 ag, .int .i64 k, .int .i64 a, .int .i64 size] w fun e w' => e = .returned (.int .i64 (shC s ag k a size)) ∧ w = w' := by
 have HS := Lib.hid h
 obtain ⟨_, c1, _⟩ := h.cells
 clear h
 cases hA : agB s ag with
 | false =>
  have HR : Hid (shC s ag k a size = 1) := Lib.hid (by unfold shC; rw [if_pos (.inl hA)])
  have HA := Lib.hid hA
  clear hA
  rw [HR.out]
  go_enter Tryz.func36, Tryz.ntmps36
  go_wp2_with (go_at_call 92; refine (shagent_any _ _ _ HS.out ag).mono ?_; rintro e w' ⟨rfl, rfl⟩; rw [HA.out])
  go_ret
  exact ⟨rfl, rfl⟩
 | true =>
  have HA := Lib.hid hA
  clear hA
  cases hG : goodB size with
  | false =>
   have HR : Hid (shC s ag k a size = 1) := Lib.hid (by unfold shC; rw [if_pos (.inr hG)])
   have hk : (kindC size == 0) = true := by rw [kindC_good, hG]; rfl
   clear hG
   rw [HR.out]
   go_enter Tryz.func36, Tryz.ntmps36
   go_wp2_with (first | (go_at_call 92; refine (shagent_any _ _ _ HS.out ag).mono ?_; rintro e w' ⟨rfl, rfl⟩; rw [HA.out]) | (go_at_call 39; refine (shkind_any _ size).mono ?_; rintro e w' ⟨rfl, rfl⟩))
   go_ret
   exact ⟨rfl, rfl⟩
  | true =>
   have HR : Hid (shC s ag k a size = bcheck s.M k a size) := Lib.hid (by unfold shC; rw [HA.out, hG, if_neg (by simp)])
   have hk : (kindC size == 0) = false := by rw [kindC_good, hG]; rfl
   clear hG
   rw [HR.out]
   go_enter Tryz.func36, Tryz.ntmps36
   go_wp2_with (first | (go_at_call 92; refine (shagent_any _ _ _ HS.out ag).mono ?_; rintro e w' ⟨rfl, rfl⟩; rw [HA.out]) | (go_at_call 39; refine (shkind_any _ size).mono ?_; rintro e w' ⟨rfl, rfl⟩) | (go_at_call 93; refine (check_any _ _ _ _ HS.out.blks k a size).mono ?_; rintro e w' ⟨rfl, rfl⟩))
   go_ret
   exact ⟨rfl, rfl⟩
end Go.Proofs.YtbhocahmhmafmaaGreat
namespace Go.Ren
theorem flat_q {s : Shm} (hk : ShOk s) (h0 : s.room = 0) (i : Nat) (hi : i < s.n) : quB s (i : Int) = [] := List.eq_nil_of_length_eq_zero (by have := hk.qc i hi; omega)
theorem set_same {s : Shm} (hk : ShOk s) {i : Nat} (hi : i < s.n) : s.Q.set i (quB s (i : Int)) = s.Q := by
 have hq : i < s.Q.length := by rw [hk.ql]; exact hi
 have e : quB s (i : Int) = s.Q[i] := by unfold quB; rw [Int.toNat_natCast, List.getD_eq_getElem?_getD, List.getElem?_eq_getElem hq]; rfl
 rw [e]; exact List.set_getElem_self hq
theorem drain_nil {s : Shm} (hk : ShOk s) {i : Nat} (hi : i < s.n) (h : quB s (i : Int) = []) : shDrain s (i : Int) = s := by
 have h2 := set_same hk hi
 unfold shDrain
 rw [h] at h2 ⊢
 rw [Int.toNat_natCast, h2]; rfl
end Go.Ren
namespace Go.Proofs.YtbhocahmhmafmaaGreat
open Go.Ren Go.RowKit
set_option linter.unusedVariables false
set_option maxRecDepth 100000 in
theorem shdrain_q (w : World) (z : ShV) (s : Shm) (h : ShIn w z s) (i : Nat) (hi : i < s.n) :
 Calls Tryz.prog 41 #[ptr z.g, .int .i64 (i : Int)] w fun r w' => r = .returned (.tuple #[]) ∧ ShQ z s (shDrain s (i : Int)) w w' := by
 rcases Nat.eq_zero_or_pos s.room with h0 | h0
 · have hn := h.noq h0
   have c2 := h.cells.2.2.1
   rw [hn] at c2
   have HP : Hid (ShQ z s (shDrain s (i : Int)) w w) := Lib.hid (by rw [drain_nil h.ok hi (flat_q h.ok h0 i hi)]; exact h.q_refl (Mod.refl _ _))
   obtain ⟨g, hg⟩ : ∃ g, g = z.g := ⟨_, rfl⟩
   rw [← hg] at c2 ⊢
   clear h hg hn h0
   go_enter Tryz.func41, Tryz.ntmps41
   go_wp2
   refine bodyPost_end (results_none rfl _ _ _) rfl ?_
   exact ⟨rfl, HP.out⟩
 · have nn := (h.qrow h0).sl.run_notnil (P := Tryz.prog) IQS.und
   rw [h.qnil h0] at nn
   have gd := run_guard_nil (P := Tryz.prog) z.qv
   have ix := (h.qrow h0).sl.run_idx (P := Tryz.prog) IQS.und IQS.size .i64 i hi
   rw [Nat.mul_one] at ix
   have c2 := h.cells.2.2.1
   have c1 := h.cells.2.1
   have cq := h.qcell h0 hi
   obtain ⟨g, hg⟩ : ∃ g, g = z.g := ⟨_, rfl⟩
   obtain ⟨qv, hqv⟩ : ∃ g, g = z.qv := ⟨_, rfl⟩
   obtain ⟨qi, hqi⟩ : ∃ g, g = z.qs i := ⟨_, rfl⟩
   obtain ⟨m, hm⟩ : ∃ g, g = z.m := ⟨_, rfl⟩
   rw [← hqv] at nn ix c2 cq gd
   rw [← hg] at c2 c1 ⊢
   rw [← hqi] at cq
   rw [← hm] at c1
   have HZ : Hid ((∀ w', Ext w w' → QueueAt w' qi s.room (quB s (i : Int)) (z.SQ i)) ∧ (∀ w', Ext w w' → BlocksAt w' m s.M z.U) ∧ ∀ k, z.SQ i k → ¬ z.U k) :=
    Lib.hid ⟨fun w' x => by rw [hqi]; exact (h.qat h0 i hi).ext x, fun w' x => by rw [hm]; exact h.blks.ext x, fun k hk => (h.lq h0 i k hi hk).2⟩
   have HH := Lib.hid (And.intro h (And.intro h0 (And.intro hi (And.intro hqi hm))))
   have KM : Hid (∀ w', Mod (fun k => z.SQ i k ∨ z.U k) w w' → w'.cell? ⟨g, 2, none⟩ = some qv ∧ w'.cell? (at_ qv i) = some qi ∧ w'.cell? ⟨g, 1, none⟩ = some m) := Lib.hid fun w' M => by
    have hn : ∀ k, z.Lf s.L.ev.length k → ¬ (z.SQ i k ∨ z.U k) := fun k hk hh => hh.elim (fun h1 => (h.lq h0 i k hi h1).1 hk) (fun h1 => h.lu k hk h1)
    exact ⟨M.cell c2 (hn _ (.inl hg)), M.cell cq (hn _ (.inr (.inl (by rw [hqv]; exact (h.qrow h0).at_block (by omega) i)))), M.cell c1 (hn _ (.inl hg))⟩
   clear h h0 hi hqi hm hg hqv
   go_enter Tryz.func41, Tryz.ntmps41
   go_upto_region 1 with fail
   refine wp_region_plan [(0, true), (1, true), (2, true), (3, true), (4, true), (5, true), (6, true), (7, true), (8, true), (9, true), (10, true), (11, false)] (fun w' => w'.cell? ⟨g, 2, none⟩ = some qv ∧ w'.cell? (at_ qv i) = some qi ∧ w'.cell? ⟨g, 1, none⟩ = some m) (by kernel_rfl) (by kernel_rfl) (by kernel_rfl) (fun _ d _ _ _ h => by cases d <;> exact h) (⟨c2, cq, c1⟩) ?_
   simp only [planL, getO]
   iterate 11 (refine plan_take (v := ?_) (by rfl) (fun wS hS => ?_) ?_; rotate_left; (focus ((try dsimp only at hS); go_simp; (try with_reducible rfl); done)); (try simp only [Act.put, List.setIfInBounds_toArray, List.set_cons_zero, List.set_cons_succ]))
   refine plan_call (fun K hK => ?_)
   go_simp
   go_at_call 95; refine (qdrain_any _ qi m s.room (quB s (i : Int)) (z.SQ i) (HZ.out.1 _ (Mod.drew (Mod.refl _ _))) s.M z.U (HZ.out.2.1 _ (Mod.drew (Mod.refl _ _))) HZ.out.2.2).mono ?_; rintro en v1 ⟨rfl, S1, q1, b1, m1, s1⟩; have M1 : Mod (fun k => z.SQ i k ∨ z.U k) w v1 := Mod.trans (Mod.drew (Mod.refl _ _)) m1; have HE := Lib.hid (And.intro q1 (And.intro b1 (And.intro M1 s1)))
   refine hK.out _ _ (KM.out _ M1) ?_
   clear hK K
   (try simp only [Act.put, List.setIfInBounds_toArray, List.set_cons_zero, List.set_cons_succ])
   refine plan_nil ?_
   clear c1 c2 cq
   refine bodyPost_end (results_none rfl _ _ _) rfl ?_
   obtain ⟨h, h0, hi, hqi, hm⟩ := HH.out
   obtain ⟨q1, b1, M1, s1⟩ := HE.out
   rw [hqi] at q1
   rw [hm] at b1
   exact ⟨rfl, h.setQ_q hi h0 q1 b1 M1 (fun k hk => .inl (s1 k hk)) (h.ok.drain hi)⟩
theorem shdrain_any (w : World) (z : ShV) (s : Shm) (h : ShIn w z s) (i : Nat) (hi : i < s.n) :
 Calls Tryz.prog 41 #[ptr z.g, .int .i64 (i : Int)] w fun r w' => r = .returned (.tuple #[]) ∧ ShTo z s (shDrain s (i : Int)) w w' := (shdrain_q w z s h i hi).mono fun _ _ h => ⟨h.1, h.2.to⟩
end Go.Proofs.YtbhocahmhmafmaaGreat
namespace Go.Proofs.YtbhocahmhmafmaaGreat
open Go.Ren Go.RowKit
set_option linter.unusedVariables false
def quV (z : ShV) (s : Shm) (a : Int) : Value := if agB s a = true ∧ 0 < s.room then z.qs a.toNat else .pointer none
set_option maxRecDepth 100000 in
theorem shqueue_any (w : World) (z : ShV) (s : Shm) (h : ShIn w z s) (a : Int) : Calls Tryz.prog 64 #[ptr z.g, .int .i64 a] w fun e w' => e = .returned (quV z s a) ∧ w = w' := by
 have HS := Lib.hid h
 cases hA : agB s a with
 | false =>
  have HR : Hid (quV z s a = .pointer none) := Lib.hid (by unfold quV; rw [if_neg (fun h => by rw [hA] at h; cases h.1)])
  have HA := Lib.hid hA
  rw [HR.out]
  clear hA h
  go_enter Tryz.func64, Tryz.ntmps64
  go_wp2_with fail
  refine (shagent_any _ _ _ HS.out a).mono ?_
  rintro e w' ⟨rfl, rfl⟩
  rw [HA.out]
  go_wp2_with fail
  go_ret
  exact ⟨rfl, rfl⟩
 | true =>
  have HA := Lib.hid hA
  have c2 := h.cells.2.2.1
  rcases Nat.eq_zero_or_pos s.room with h0 | h0
  · have HR : Hid (quV z s a = .pointer none) := Lib.hid (by unfold quV; rw [if_neg (fun h => by omega)])
    rw [h.noq h0] at c2
    rw [HR.out]
    have nn : ∀ w', (binOp .eql 73 (.slice none 0 0) (.slice none 0 0)).run Tryz.prog w' = .ok (.bool true) w' := (Own.nil w 76 1).sl.run_nil (P := Tryz.prog) IQS.und
    have gd := run_guard_nil (P := Tryz.prog) (.slice none 0 0)
    clear hA h h0
    go_enter Tryz.func64, Tryz.ntmps64
    go_wp2_with fail
    refine (shagent_any _ _ _ HS.out a).mono ?_
    rintro e w' ⟨rfl, rfl⟩
    rw [HA.out]
    go_wp2_with fail
    go_ret
    exact ⟨rfl, rfl⟩
  · obtain ⟨i, rfl, hi⟩ := agB_iff.1 hA
    have HR : Hid (quV z s (i : Int) = z.qs i) := Lib.hid (by unfold quV; rw [if_pos ⟨hA, h0⟩, Int.toNat_natCast])
    have nn := (h.qrow h0).sl.run_nil (P := Tryz.prog) IQS.und
    rw [h.qnil h0] at nn
    have gd := run_guard_nil (P := Tryz.prog) z.qv
    have ix := (h.qrow h0).sl.run_idx (P := Tryz.prog) IQS.und IQS.size .i64 i hi
    rw [Nat.mul_one] at ix
    have cq := h.qcell h0 hi
    rw [HR.out]
    clear hA h h0 hi
    go_enter Tryz.func64, Tryz.ntmps64
    go_wp2_with fail
    refine (shagent_any _ _ _ HS.out (i : Int)).mono ?_
    rintro e w' ⟨rfl, rfl⟩
    rw [HA.out]
    go_wp2_with fail
    go_ret
    exact ⟨rfl, rfl⟩
theorem quV_none {z : ShV} {s : Shm} {a : Int} (h : ¬ (agB s a = true ∧ 0 < s.room)) : quV z s a = .pointer none := by unfold quV; rw [if_neg h]
theorem quV_some {w : World} {z : ShV} {s : Shm} {a : Int} (h : ShIn w z s) (h1 : agB s a = true) (h0 : 0 < s.room) : ∃ i pq : Nat, a = i ∧ i < s.n ∧ quV z s a = ptr pq ∧ z.qs i = ptr pq := by
 obtain ⟨i, rfl, hi⟩ := agB_iff.1 h1
 obtain ⟨pq, lv, V, e, _⟩ := (h.qat h0 i hi).ex
 exact ⟨i, pq, rfl, hi, by unfold quV; rw [if_pos ⟨h1, h0⟩, Int.toNat_natCast]; exact e, e⟩
theorem no_q {s : Shm} (hk : ShOk s) {a : Int} (h : ¬ (agB s a = true ∧ 0 < s.room)) : shFl s a = (false, s) ∧ shTr s a = (false, s) ∧ shPend s a = 0 := by
 cases hA : agB s a with
 | false => unfold shFl shTr shPend; rw [hA]; simp
 | true =>
  obtain ⟨i, rfl, hi⟩ := agB_iff.1 hA
  have e := flat_q hk (by rcases Nat.eq_zero_or_pos s.room with h0 | h0; exact h0; exact absurd ⟨hA, h0⟩ h) i hi
  unfold shFl shTr shPend
  rw [e, hA]; simp [qtears]
set_option maxRecDepth 100000 in
theorem shflush_any (w : World) (z : ShV) (s : Shm) (h : ShIn w z s) (a : Int) : Calls Tryz.prog 31 #[ptr z.g, .int .i64 a] w fun e w' => e = .returned (.bool (shFl s a).1) ∧ ShTo z s (shFl s a).2 w w' := by
 have HS := Lib.hid h
 by_cases hq : agB s a = true ∧ 0 < s.room
 · obtain ⟨i, pq, rfl, hi, e1, e2⟩ := quV_some h hq.1 hq.2
   have c1 := h.cells.2.1
   have HQ := Lib.hid (And.intro hq (And.intro hi (And.intro e1 e2)))
   clear h hq hi e1 e2
   go_enter Tryz.func31, Tryz.ntmps31
   go_wp2_with fail
   refine (shqueue_any _ _ _ HS.out (i : Int)).mono ?_
   rintro e w' ⟨rfl, rfl⟩
   rw [HQ.out.2.2.1]
   go_wp2_with fail
   refine (qflush_any _ (ptr pq) z.m s.room (quB s (i : Int)) (z.SQ i) (by have := HS.out.qat HQ.out.1.2 i HQ.out.2.1; rwa [HQ.out.2.2.2] at this) s.M z.U HS.out.blks (fun k hk => (HS.out.lq HQ.out.1.2 i k HQ.out.2.1 hk).2)).mono ?_
   rintro en v1 ⟨rfl, S1, q1, b1, m1, s1⟩
   go_wp2_with fail
   go_ret
   obtain ⟨⟨hA, h0⟩, hi, e1, e2⟩ := HQ.out
   rw [← e2] at q1
   have P := HS.out.setQ_to hi h0 q1 b1 m1 (fun k hk => .inl (s1 k hk)) (HS.out.ok.flush hi)
   unfold shFl
   rw [hA, Bool.true_and]
   cases hE : quB s (i : Int) with
   | nil =>
    refine ⟨rfl, ?_⟩
    have e3 := set_same HS.out.ok hi
    rw [hE] at P e3
    simp only [List.tail_nil, qflushM, e3] at P
    exact P
   | cons x l => rw [← hE]; exact ⟨by rw [hE]; rfl, by rw [hE]; simp; exact P⟩
 · obtain ⟨f1, _, _⟩ := no_q h.ok hq
   have HQ := Lib.hid (And.intro (quV_none (z := z) hq) f1)
   rw [f1]
   clear h hq f1
   go_enter Tryz.func31, Tryz.ntmps31
   go_wp2_with fail
   refine (shqueue_any _ _ _ HS.out a).mono ?_
   rintro e w' ⟨rfl, rfl⟩
   rw [HQ.out.1]
   go_wp2_with fail
   go_ret
   exact ⟨rfl, HS.out.to (Mod.refl _ _)⟩
set_option maxRecDepth 100000 in
theorem shtear_any (w : World) (z : ShV) (s : Shm) (h : ShIn w z s) (a : Int) : Calls Tryz.prog 51 #[ptr z.g, .int .i64 a] w fun e w' => e = .returned (.bool (shTr s a).1) ∧ ShTo z s (shTr s a).2 w w' := by
 have HS := Lib.hid h
 by_cases hq : agB s a = true ∧ 0 < s.room
 · obtain ⟨i, pq, rfl, hi, e1, e2⟩ := quV_some h hq.1 hq.2
   have c1 := h.cells.2.1
   have HQ := Lib.hid (And.intro hq (And.intro hi (And.intro e1 e2)))
   clear h hq hi e1 e2
   go_enter Tryz.func51, Tryz.ntmps51
   go_wp2_with fail
   refine (shqueue_any _ _ _ HS.out (i : Int)).mono ?_
   rintro e w' ⟨rfl, rfl⟩
   rw [HQ.out.2.2.1]
   go_wp2_with fail
   refine (qtear_any _ (ptr pq) z.m s.room (quB s (i : Int)) (z.SQ i) (by have := HS.out.qat HQ.out.1.2 i HQ.out.2.1; rwa [HQ.out.2.2.2] at this) s.M z.U HS.out.blks (fun k hk => (HS.out.lq HQ.out.1.2 i k HQ.out.2.1 hk).2)).mono ?_
   rintro en v1 ⟨rfl, S1, q1, b1, m1, s1⟩
   go_wp2_with fail
   go_ret
   obtain ⟨⟨hA, h0⟩, hi, e1, e2⟩ := HQ.out
   rw [← e2] at q1
   have P := HS.out.setQ_to hi h0 q1 b1 m1 (fun k hk => .inl (s1 k hk)) (HS.out.ok.tear hi)
   unfold shTr
   rw [hA, Bool.true_and]
   cases hE : qtears (quB s (i : Int)) with
   | false =>
    refine ⟨rfl, ?_⟩
    have e3 := set_same HS.out.ok hi
    have e4 : qtear (quB s (i : Int)) = quB s (i : Int) ∧ qtearM (quB s (i : Int)) s.M = s.M := by
     cases hL : quB s (i : Int) with
     | nil => exact ⟨rfl, rfl⟩
     | cons x l =>
      rw [hL] at hE
      have ht : tearsE x = false := hE
      simp [qtear, qtearM, ht]
    rw [e4.1, e4.2, e3] at P
    exact P
   | true => exact ⟨rfl, P⟩
 · obtain ⟨_, f1, _⟩ := no_q h.ok hq
   have HQ := Lib.hid (And.intro (quV_none (z := z) hq) f1)
   rw [f1]
   clear h hq f1
   go_enter Tryz.func51, Tryz.ntmps51
   go_wp2_with fail
   refine (shqueue_any _ _ _ HS.out a).mono ?_
   rintro e w' ⟨rfl, rfl⟩
   rw [HQ.out.1]
   go_wp2_with fail
   go_ret
   exact ⟨rfl, HS.out.to (Mod.refl _ _)⟩
theorem qlen_any (w : World) (p : Value) (room : Nat) (E : List Ent) (S : Nat → Prop) (h : QueueAt w p room E S) :
 Calls Tryz.prog 43 #[p] w fun r w' => r = .returned (.int .i64 (E.length : Int)) ∧ w = w' := by
 obtain ⟨pq, lv, V, rfl, hin, hS⟩ := h.ex
 have c1 := hin.c1
 have l1 := hin.row.sl.run_len (P := Tryz.prog) IE.und 3
 clear hin hS h
 go_enter Tryz.func43, Tryz.ntmps43
 go_wp2
 go_ret
 exact ⟨rfl, rfl⟩
set_option maxRecDepth 100000 in
theorem shpend_any (w : World) (z : ShV) (s : Shm) (h : ShIn w z s) (a : Int) : Calls Tryz.prog 16 #[ptr z.g, .int .i64 a] w fun e w' => e = .returned (.int .i64 (shPend s a : Int)) ∧ w = w' := by
 have HS := Lib.hid h
 by_cases hq : agB s a = true ∧ 0 < s.room
 · obtain ⟨i, pq, rfl, hi, e1, e2⟩ := quV_some h hq.1 hq.2
   have HQ := Lib.hid (And.intro hq (And.intro hi (And.intro e1 e2)))
   have HP : Hid (shPend s (i : Int) = (quB s (i : Int)).length) := Lib.hid (by unfold shPend; rw [hq.1, if_pos rfl])
   rw [HP.out]
   clear h hq hi e1 e2
   go_enter Tryz.func16, Tryz.ntmps16
   go_wp2_with fail
   refine (shqueue_any _ _ _ HS.out (i : Int)).mono ?_
   rintro e w' ⟨rfl, rfl⟩
   rw [HQ.out.2.2.1]
   go_wp2_with fail
   refine (qlen_any _ (ptr pq) s.room (quB s (i : Int)) (z.SQ i) (by have := HS.out.qat HQ.out.1.2 i HQ.out.2.1; rwa [HQ.out.2.2.2] at this)).mono ?_
   rintro en v1 ⟨rfl, rfl⟩
   go_wp2_with fail
   go_ret
   exact ⟨rfl, rfl⟩
 · obtain ⟨_, _, f1⟩ := no_q h.ok hq
   have HQ := Lib.hid (And.intro (quV_none (z := z) hq) f1)
   rw [f1]
   clear h hq f1
   go_enter Tryz.func16, Tryz.ntmps16
   go_wp2_with fail
   refine (shqueue_any _ _ _ HS.out a).mono ?_
   rintro e w' ⟨rfl, rfl⟩
   rw [HQ.out.1]
   go_wp2_with fail
   go_ret
   exact ⟨rfl, rfl⟩
theorem bmakeN_nn (m : List Blk) (size : Int) : ((bmakeN m size).toNat : Int) = bmakeN m size := by unfold bmakeN; split <;> omega
set_option maxRecDepth 100000 in
theorem shmake_any (w : World) (z : ShV) (s : Shm) (h : ShIn w z s) (size : Int) : Calls Tryz.prog 29 #[ptr z.g, .int .i64 size] w fun e w' => e = .returned (.tuple #[.int .i64 ((shMake s size).1.1 : Int), .int .i64 (shMake s size).1.2]) ∧ ShTo z s (shMake s size).2 w w' := by
 have HS := Lib.hid h
 have c1 := h.cells.2.1
 have HB : Hid (((shMake s size).1.1 : Int) = bmakeN s.M size) := Lib.hid (bmakeN_nn _ _)
 rw [HB.out]
 clear h
 go_enter Tryz.func29, Tryz.ntmps29
 go_wp2_with fail
 refine (make_any _ _ _ _ HS.out.blks size).mono ?_
 rintro e w' ⟨rfl, S', b1, m1, f1⟩
 go_wp2_with fail
 go_ret2
 exact ⟨rfl, HS.out.setM_to b1 m1 f1 (HS.out.ok.make size)⟩
theorem shbytes_any (w : World) (z : ShV) (s : Shm) (h : ShIn w z s) : Calls Tryz.prog 19 #[ptr z.g] w fun e w' => ∃ v V, e = .returned v ∧ RowsIn w' v V s.M.length (fun i => (blk s.M i).b) ∧ Ext w w' := by
 have HS := Lib.hid h
 have c1 := h.cells.2.1
 clear h
 go_enter Tryz.func19, Tryz.ntmps19
 go_wp2_with fail
 refine (all_any _ _ _ _ HS.out.blks).mono ?_
 rintro e w' ⟨v, V, rfl, r1, x1⟩
 go_wp2_with fail
 go_ret
 exact ⟨v, V, rfl, r1, x1⟩
end Go.Proofs.YtbhocahmhmafmaaGreat
