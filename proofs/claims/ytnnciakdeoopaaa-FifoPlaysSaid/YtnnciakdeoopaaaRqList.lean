/-
  The contract of (*renref18.Queue).List: the entries, in memory of their own. No condition.
-/
import Derived.Test.YtnnciakdeoopaaaRqAt
namespace Go.Proofs.Ytnnciakdeoopaaa
open Go.Ren Go.RowKit
set_option linter.unusedVariables false

structure RListIn (w : World) (lv : Value) (V : Nat → Value) (n : Nat) (E : Nat → Ent) : Prop where
  row : Own w 110 5 lv n (flat 5 n (fun i j => ecell (E i) (V i) j))
  bs : ∀ i, i < n → Own w 5 1 (V i) (E i).b.length ((E i).b.map bv)
theorem RListIn.ext {w w' : World} {lv : Value} {V : Nat → Value} {n : Nat} {E : Nat → Ent} (h : RListIn w lv V n E) (x : Ext w w') : RListIn w' lv V n E := ⟨h.row.ext x, fun i hi => (h.bs i hi).ext x⟩
theorem RListIn.push {w w2 : World} {v v' u : Value} {V : Nat → Value} {n : Nat} {E : Nat → Ent} (h : RListIn w v V n E) (M : Mod (fun q => v.ownBlock = some q) w w2)
    (o : Own w2 110 5 v' (n + 1) (flat 5 n (fun i j => ecell (E i) (V i) j) ++ [.int .i64 (E n).blk, .int .i64 (E n).at_, u, .int .i64 (E n).by_, .bool (E n).tears]))
    (ob : Own w 5 1 u (E n).b.length ((E n).b.map bv)) : RListIn w2 v' (updV V n u) (n + 1) E := by
  refine ⟨?_, fun i hi => ?_⟩
  · have e : flat 5 (n + 1) (fun i j => ecell (E i) (updV V n u i) j) = flat 5 n (fun i j => ecell (E i) (V i) j) ++ [.int .i64 (E n).blk, .int .i64 (E n).at_, u, .int .i64 (E n).by_, .bool (E n).tears] := by
      rw [flat_succ _ _ _ (by decide)]
      congr 1
      · exact flat_congr fun i j hi _ => by rw [updV_lt hi]
      · simp [List.range, List.range.loop, ecell, updV_same]
    rw [e]; exact o
  · by_cases e : i = n
    · subst e; rw [updV_same]; exact ob.mod M (fun k hk hl => ob.apart h.row (by decide) hk hl)
    · have hi' : i < n := by omega
      rw [updV_lt hi']; exact (h.bs i hi').mod M (fun k hk hl => (h.bs i hi').apart h.row (by decide) hk hl)

/-- What a list of entries is, behind the call. -/
def RListPost18 (E : List Ent) (w : World) (e : Ending) (w' : World) : Prop :=
  ∃ v V, e = .returned v ∧ RListIn w' v V E.length (fun i => ent E i) ∧ Ext w w' ∧ (∀ q, v.ownBlock = some q → w.heap.size ≤ q) ∧ ∀ i q, i < E.length → (V i).ownBlock = some q → w.heap.size ≤ q

set_option maxRecDepth 100000 in
set_option maxHeartbeats 800000 in
theorem rqlist_any (w : World) (p : Value) (room : Nat) (E : List Ent) (S : Nat → Prop) (h : RqAt w p room E S) :
    Calls Try.prog 69 #[p] w (RListPost18 E w) := by
  obtain ⟨pq, lv, V, rfl, hin, _⟩ := h.ex
  clear h
  have l0 := hin.row.sl.run_len (P := Try.prog) IRQ.und 3
  have hcnt := hin.cnt
  have hrng := hin.rng
  have HIN := Lib.hid hin
  clear hin
  go_enter Try.func69, Try.ntmps69
  go_wp2_with fail
  go_loopw [3, 4] (fun s3 s4 wr => ∃ k V', k ≤ E.length ∧ s4 = .int .i64 (k : Int) ∧ RListIn wr s3 V' k (fun i => ent E i) ∧ Ext w wr ∧ (∀ q, s3.ownBlock = some q → w.heap.size ≤ q) ∧ ∀ i q, i < k → (V' i).ownBlock = some q → w.heap.size ≤ q) (fun _ i _ => E.length - (intOf i).toNat)
  case atStart => exact ⟨0, V, Nat.zero_le _, rfl, ⟨Own.nil _ _ _, fun i hi => by omega⟩, Mod.refl _ _, (fun q hq => by cases hq), fun i q hi => by omega⟩
  case round =>
    obtain ⟨k, V', hk, rfl, hr, x, hf, hf2⟩ := hrel
    have hinr := HIN.out.mod x (fun _ _ h => h)
    have c0 := hinr.c1
    by_cases hlt : k < E.length
    · have hlt' : (k : Int) < (E.length : Int) := by omega
      have i0 := HIN.out.row.sl.run_idx (P := Try.prog) IRQ.und IRQ.size .i64 k hlt
      obtain ⟨c1, c2, c3, c4, c5⟩ := hinr.cells hlt
      have hb := hinr.bs k hlt
      have hok := (hinr.ok k hlt).len
      have k1 := Sl.cells_eq hb
      have t1 := Sl.run_st (P := Try.prog) hb
      obtain ⟨e, he⟩ : ∃ e, e = ent E k := ⟨_, rfl⟩
      rw [← he] at c1 c2 c4 c5 hb hok
      obtain ⟨bl, hbl⟩ : ∃ b, b = e.blk := ⟨_, rfl⟩
      obtain ⟨ea, hea⟩ : ∃ b, b = e.at_ := ⟨_, rfl⟩
      obtain ⟨y, hy⟩ : ∃ b, b = e.by_ := ⟨_, rfl⟩
      obtain ⟨te, hte⟩ : ∃ b, b = e.tears := ⟨_, rfl⟩
      obtain ⟨eb, heb⟩ : ∃ b, b = e.b := ⟨_, rfl⟩
      rw [← hbl] at c1; rw [← hea] at c2; rw [← hy] at c4; rw [← hte] at c5; rw [← heb] at hb hok
      obtain ⟨A, hA⟩ : ∃ A, A = at_ lv (k * 5) := ⟨_, rfl⟩
      rw [← hA] at i0 c1 c2 c3 c4 c5
      have HE := Lib.hid (And.intro he (And.intro hbl (And.intro hea (And.intro hy (And.intro hte heb)))))
      obtain ⟨vk, hvk⟩ : ∃ v, v = V k := ⟨_, rfl⟩
      rw [← hvk] at c3 hb k1 t1
      obtain ⟨w1, hw1⟩ : ∃ w1, w1 = wr.alloc (.cells #[.int .i64 bl, .int .i64 ea, vk, .int .i64 y, .bool te] 110) := ⟨_, rfl⟩
      obtain ⟨g1, hg1⟩ : ∃ g, g = wr.heap.size := ⟨_, rfl⟩
      have x1 : Ext wr w1 := by rw [hw1]; exact (Mod.refl _ _).alloc _
      have h1 : w1.heap[g1]? = some (.cells #[.int .i64 bl, .int .i64 ea, vk, .int .i64 y, .bool te] 110 (0, 0)) := by rw [hw1, hg1]; exact heap_alloc_new _ _
      have H := Lib.hid (And.intro hr (And.intro x (And.intro hb (And.intro hf hf2))))
      have HW1 := Lib.hid (And.intro hw1 (And.intro hg1 (And.intro x1 h1)))
      have d0 : w1.cell? ⟨g1, 0, none⟩ = some (.int .i64 bl) := by simp [World.cell?, h1]
      have d1 : w1.cell? ⟨g1, 1, none⟩ = some (.int .i64 ea) := by simp [World.cell?, h1]
      have d2 : w1.cell? ⟨g1, 2, none⟩ = some vk := by simp [World.cell?, h1]
      have d3 : w1.cell? ⟨g1, 3, none⟩ = some (.int .i64 y) := by simp [World.cell?, h1]
      have d4 : w1.cell? ⟨g1, 4, none⟩ = some (.bool te) := by simp [World.cell?, h1]
      clear hr x hb hf hf2 hinr he hbl hea hy hte heb hA hvk hw1 hg1 x1 h1
      go_upto_region 6 with fail
      rw [← HW1.out.1, ← HW1.out.2.1]
      clear c0 c1 c2 c3 c4 c5 i0 t1
      go_wp2_with fail
      refine (copy_bytes _ vk eb (BytesAt.ext H.out.2.2.1 HW1.out.2.2.1) (by omega)).mono ?_
      rintro r w2 ⟨v1, rfl, o1, x2, f1⟩
      rw [List.length_map] at o1
      obtain ⟨la, lc, hv1, _⟩ := o1.sl.shape
      subst hv1
      have h2 := x2.blk HW1.out.2.2.2
      have d5 : w2.cell? ⟨g1, 2, none⟩ = some vk := by simp [World.cell?, h2]
      have f5 : w2.frozen? ⟨g1, 2, none⟩ = false := by simp [World.frozen?, h2]
      obtain ⟨w3, hw3⟩ : ∃ W, W = w2.setCell ⟨g1, 2, none⟩ (.slice la eb.length lc) := ⟨_, rfl⟩
      have M3 : Mod (fun q => q = g1) w2 w3 := by rw [hw3]; exact Mod.setCell (F := fun q => q = g1) (Mod.refl _ _) (.inl rfl) _
      have h3 : w3.heap[g1]? = some (.cells #[.int .i64 bl, .int .i64 ea, .slice la eb.length lc, .int .i64 y, .bool te] 110 (0, 0)) := by rw [hw3]; simp [World.setCell, Array.getElem?_modify, h2]
      have hgw : g1 = wr.heap.size := HW1.out.2.1
      have x3 : Ext wr w3 := (HW1.out.2.2.1.trans x2).trans' M3 (fun q hq => .inr (by omega))
      have o3 := o1.mod M3 (fun q hq e => by have := f1 q hq; have := lt_of_block HW1.out.2.2.2; omega)
      have fo : ∀ q, (Value.slice la eb.length lc).ownBlock = some q → wr.heap.size ≤ q := fun q hq => by have := f1 q hq; have := HW1.out.2.2.1.size; omega
      have e0 : w3.cell? ⟨g1, 0, none⟩ = some (.int .i64 bl) := by simp [World.cell?, h3]
      have e1 : w3.cell? ⟨g1, 1, none⟩ = some (.int .i64 ea) := by simp [World.cell?, h3]
      have e2 : w3.cell? ⟨g1, 2, none⟩ = some (.slice la eb.length lc) := by simp [World.cell?, h3]
      have e3 : w3.cell? ⟨g1, 3, none⟩ = some (.int .i64 y) := by simp [World.cell?, h3]
      have e4 : w3.cell? ⟨g1, 4, none⟩ = some (.bool te) := by simp [World.cell?, h3]
      have hr3 := H.out.1.ext x3
      have O := Lib.hid (And.intro o3 (And.intro x3 fo))
      have HW3 := Lib.hid hw3
      clear o1 x2 f1 h2 hw3 M3 h3 x3 o3 fo d0 d1 d2 d3 d4 hgw
      go_upto_region 7 with fail
      rw [← HW3.out]
      clear d5 f5
      go_wp2_with (at_builtin; go_loud (refine wpList_app IRQ rfl (.tmp 26) (.tmp 28) rfl (hr3.row.ext (Mod.alloc (Mod.refl _ _) _)) (built_sl (n := 1) (g := w3.heap.size) (e := 110) (cs := #[.int .i64 bl, .int .i64 ea, .slice la eb.length lc, .int .i64 y, .bool te]) (by simp only [heap_alloc_if, if_true]) rfl (by simp only [maxLen]; omega)) (one5 _ _ _ _ _ _ _) (by simp [Act.eval]) (by simp [Act.eval]) (by omega) (by simp only [maxLen]; omega) ?_); intro lv' w4 ol2 gr2 fr2 nn2; have HH := Lib.hid (And.intro ol2 (And.intro gr2 fr2)); clear ol2 gr2 fr2 nn2)
      go_roundw
      case rel =>
        obtain ⟨ol2, gr2, fr2⟩ := HH.out
        obtain ⟨he, hbl, hea, hy, hte, heb⟩ := HE.out
        have M2 : Mod (fun q => u3.ownBlock = some q) w3 w4 := Mod.grown (Mod.alloc (Mod.refl _ _) _) gr2 (fun q h => .inl h)
        have P := hr3.push (u := .slice la eb.length lc) M2 (by rw [← he, ← hbl, ← hea, ← hy, ← hte]; exact ol2) (by rw [← he, ← heb]; exact O.out.1)
        refine ⟨k + 1, _, by omega, by go_num, P, (H.out.2.1.trans O.out.2.1).trans' M2 (fun q hq => .inr (H.out.2.2.2.1 q hq)), fun q hq => ?_, fun i q hi hq => ?_⟩
        · rcases fr2 q hq with h | h
          · exact H.out.2.2.2.1 q h
          · simp only [World.size_alloc] at h
            have := O.out.2.1.size
            have := H.out.2.1.size
            omega
        · by_cases e : i = k
          · subst e; rw [updV_same] at hq
            have := O.out.2.2 q hq
            have := H.out.2.1.size
            omega
          · have hi' : i < k := by omega
            rw [updV_lt hi'] at hq; exact H.out.2.2.2.2 i q hi' hq
      case measure => simp [intOf]; omega
    · have hlt' : ¬ (k : Int) < (E.length : Int) := by omega
      obtain rfl : k = E.length := by omega
      have HF := Lib.hid (And.intro hr (And.intro x (And.intro hf hf2)))
      clear hr x hf hf2 hinr
      go_wp2_with fail
      go_ret
      exact ⟨_, V', rfl, HF.out.1, HF.out.2.1, HF.out.2.2.1, HF.out.2.2.2⟩
end Go.Proofs.Ytnnciakdeoopaaa
