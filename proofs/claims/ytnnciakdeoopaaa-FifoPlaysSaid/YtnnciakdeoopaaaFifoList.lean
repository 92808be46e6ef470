/-
  The contract of (*fifo.Queue).List: the entries, in memory of their own. No condition.
-/
import Derived.Test.YtnnciakdeoopaaaFifoPut
namespace Go.Proofs.Ytnnciakdeoopaaa
open Go.Ren Go.RowKit
set_option linter.unusedVariables false

structure ListIn (w : World) (lv : Value) (V : Nat → Value) (n : Nat) (E : Nat → Ent) : Prop where
  row : Own w 65 5 lv n (flat 5 n (fun i j => ecell (E i) (V i) j))
  bs : ∀ i, i < n → Own w 5 1 (V i) (E i).b.length ((E i).b.map bv)
theorem ListIn.ext {w w' : World} {lv : Value} {V : Nat → Value} {n : Nat} {E : Nat → Ent} (h : ListIn w lv V n E) (x : Ext w w') : ListIn w' lv V n E := ⟨h.row.ext x, fun i hi => (h.bs i hi).ext x⟩
theorem ListIn.push {w w2 : World} {v v' u : Value} {V : Nat → Value} {n : Nat} {E : Nat → Ent} (h : ListIn w v V n E) (M : Mod (fun q => v.ownBlock = some q) w w2)
    (o : Own w2 65 5 v' (n + 1) (flat 5 n (fun i j => ecell (E i) (V i) j) ++ [.int .i64 (E n).blk, .int .i64 (E n).at_, u, .int .i64 (E n).by_, .bool (E n).tears]))
    (ob : Own w 5 1 u (E n).b.length ((E n).b.map bv)) : ListIn w2 v' (updV V n u) (n + 1) E := by
  refine ⟨?_, fun i hi => ?_⟩
  · have e : flat 5 (n + 1) (fun i j => ecell (E i) (updV V n u i) j) = flat 5 n (fun i j => ecell (E i) (V i) j) ++ [.int .i64 (E n).blk, .int .i64 (E n).at_, u, .int .i64 (E n).by_, .bool (E n).tears] := by
      rw [flat_succ _ _ _ (by decide)]
      congr 1
      · exact flat_congr fun i j hi _ => by rw [updV_lt hi]
      · simp [List.range, List.range.loop, ecell, updV_same]
    rw [e]; exact o
  · by_cases e : i = n
    · subst e; rw [updV_same]; exact ob.mod M (fun k hk hl => ob.apart h.row (by decide) hk hl)
    · have hi' : i < n := by omega
      rw [updV_lt hi']; exact (h.bs i hi').mod M (fun k hk hl => (h.bs i hi').apart h.row (by decide) hk hl)

/-- What a list of entries is, behind the call. -/
def ListPost (E : List Ent) (w : World) (e : Ending) (w' : World) : Prop :=
  ∃ v V, e = .returned v ∧ ListIn w' v V E.length (fun i => ent E i) ∧ Ext w w' ∧ (∀ q, v.ownBlock = some q → w.heap.size ≤ q) ∧ ∀ i q, i < E.length → (V i).ownBlock = some q → w.heap.size ≤ q

set_option maxRecDepth 100000 in
set_option maxHeartbeats 800000 in
theorem qlist_any (w : World) (p : Value) (room : Nat) (E : List Ent) (S : Nat → Prop) (h : QueueAt w p room E S) :
    Calls Try.prog 39 #[p] w (ListPost E w) := by
  obtain ⟨pq, lv, V, rfl, hin, _⟩ := h.ex
  clear h
  have c0 := hin.c1
  have l0 := hin.row.sl.run_len (P := Try.prog) IE.und 3
  have hcnt := hin.cnt
  have hrng := hin.rng
  go_enter Try.func39, Try.ntmps39
  go_wp2
  go_loopw [3, 11] (fun s3 s11 wr => ∃ k V', k ≤ E.length ∧ s11 = .int .i64 (k : Int) ∧ ListIn wr s3 V' k (fun i => ent E i) ∧ Ext w wr ∧ (∀ q, s3.ownBlock = some q → w.heap.size ≤ q) ∧ ∀ i q, i < k → (V' i).ownBlock = some q → w.heap.size ≤ q) (fun _ i _ => E.length - (intOf i).toNat)
  case atStart => exact ⟨0, V, Nat.zero_le _, rfl, ⟨Own.nil _ _ _, fun i hi => by omega⟩, Mod.refl _ _, (fun q hq => by cases hq), fun i q hi => by omega⟩
  case round =>
    obtain ⟨k, V', hk, rfl, hr, x, hf, hf2⟩ := hrel
    by_cases hlt : k < E.length
    · have hlt' : (k : Int) < (E.length : Int) := by omega
      have i0 := hin.row.sl.run_idx (P := Try.prog) IE.und IE.size .i64 k hlt
      have hinr := hin.mod x (fun _ _ h => h)
      obtain ⟨c1, c2, c3, c4, c5⟩ := hinr.cells hlt
      have hb := hinr.bs k hlt
      have hok := (hinr.ok k hlt).len
      have k1 := Sl.cells_eq hb
      have t1 := Sl.run_st (P := Try.prog) hb
      obtain ⟨e, he⟩ : ∃ e, e = ent E k := ⟨_, rfl⟩
      rw [← he] at c1 c2 c4 c5 hb hok
      obtain ⟨bl, hbl⟩ : ∃ b, b = e.blk := ⟨_, rfl⟩
      obtain ⟨ea, hea⟩ : ∃ b, b = e.at_ := ⟨_, rfl⟩
      obtain ⟨y, hy⟩ : ∃ b, b = e.by_ := ⟨_, rfl⟩
      obtain ⟨te, hte⟩ : ∃ b, b = e.tears := ⟨_, rfl⟩
      obtain ⟨eb, heb⟩ : ∃ b, b = e.b := ⟨_, rfl⟩
      rw [← hbl] at c1; rw [← hea] at c2; rw [← hy] at c4; rw [← hte] at c5; rw [← heb] at hb hok
      have HE := Lib.hid (And.intro he (And.intro hbl (And.intro hea (And.intro hy (And.intro hte heb)))))
      have H := Lib.hid (And.intro hin (And.intro hr (And.intro x (And.intro hb (And.intro hf hf2)))))
      clear hin hr x hb hf hf2 hinr he hbl hea hy hte heb c0
      go_wp2_with fail
      refine (qcopied_any _ bl ea y te (V k) eb (BytesAt.ext H.out.2.2.2.1 (Mod.alloc (Mod.refl _ _) _)) (by omega)).mono ?_
      rintro r w1 ⟨la, lc, rfl, o1, x1, f1⟩
      have XW : Ext wr w1 := (Mod.alloc (Mod.refl _ _) _).trans x1
      have hr1 := H.out.2.1.ext XW
      have O := Lib.hid (And.intro o1 (And.intro XW f1))
      clear o1 x1 f1 XW
      go_wp2_with (at_builtin; go_loud (refine wpList_app IE rfl (.tmp 15) (.tmp 18) rfl (hr1.row.ext (Mod.alloc (Mod.refl _ _) _)) (built_sl (n := 1) (g := w1.heap.size) (e := 65) (cs := #[.int .i64 bl, .int .i64 ea, .slice la eb.length lc, .int .i64 y, .bool te]) (by simp only [heap_alloc_if, if_true]) rfl (by simp only [maxLen]; omega)) (one5 _ _ _ _ _ _ _) (by simp [Act.eval]) (by simp [Act.eval]) (by omega) (by simp only [maxLen]; omega) ?_); intro lv' w2 ol2 gr2 fr2 nn2; have HH := Lib.hid (And.intro ol2 (And.intro gr2 fr2)); clear ol2 gr2 fr2 nn2)
      go_roundw
      case rel =>
        obtain ⟨ol2, gr2, fr2⟩ := HH.out
        obtain ⟨he, hbl, hea, hy, hte, heb⟩ := HE.out
        have M2 : Mod (fun q => u3.ownBlock = some q) w1 w2 := Mod.grown (Mod.alloc (Mod.refl _ _) _) gr2 (fun q h => .inl h)
        have P := hr1.push (u := .slice la eb.length lc) M2 (by rw [← he, ← hbl, ← hea, ← hy, ← hte]; exact ol2) (by rw [← he, ← heb]; exact O.out.1)
        refine ⟨k + 1, _, by omega, by go_num, P, (H.out.2.2.1.trans O.out.2.1).trans' M2 (fun q hq => .inr (H.out.2.2.2.2.1 q hq)), fun q hq => ?_, fun i q hi hq => ?_⟩
        · rcases fr2 q hq with h | h
          · exact H.out.2.2.2.2.1 q h
          · simp only [World.size_alloc] at h
            have := O.out.2.1.size
            have := H.out.2.2.1.size
            omega
        · by_cases e : i = k
          · subst e; rw [updV_same] at hq
            have := O.out.2.2 q hq
            simp only [World.size_alloc] at this
            have := H.out.2.2.1.size
            omega
          · have hi' : i < k := by omega
            rw [updV_lt hi'] at hq; exact H.out.2.2.2.2.2 i q hi' hq
      case measure => simp [intOf]; omega
    · have hlt' : ¬ (k : Int) < (E.length : Int) := by omega
      obtain rfl : k = E.length := by omega
      have HF := Lib.hid (And.intro hr (And.intro x (And.intro hf hf2)))
      clear hr x hf hf2 hin
      go_wp2
      go_ret
      exact ⟨_, V', rfl, HF.out.1, HF.out.2.1, HF.out.2.2.1, HF.out.2.2.2⟩
end Go.Proofs.Ytnnciakdeoopaaa
