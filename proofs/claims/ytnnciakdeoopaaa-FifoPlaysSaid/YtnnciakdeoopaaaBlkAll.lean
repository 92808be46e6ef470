/-
  The contract of (*block.Blocks).All: a list of the blocks' bytes, each a row of its own. No condition.
-/
import Derived.Test.YtnnciakdeoopaaaBlkMake
namespace Go.Proofs.Ytnnciakdeoopaaa
open Go.Ren Go.RowKit
set_option linter.unusedVariables false

theorem IBB : EInfo Try.prog 46 27 1 24 (.slice none 0 0) := ⟨Try.underlying46, by kernel_rfl, rfl, by decide⟩

/-- A list of lists of bytes in memory. -/
structure RowsIn (w : World) (v : Value) (V : Nat → Value) (n : Nat) (L : Nat → List UInt8) : Prop where
  row : Own w 27 1 v n (flat 1 n (fun i _ => V i))
  bs : ∀ i, i < n → Own w 5 1 (V i) (L i).length ((L i).map bv)
theorem RowsIn.ext {w w' : World} {v : Value} {V : Nat → Value} {n : Nat} {L : Nat → List UInt8} (h : RowsIn w v V n L) (x : Ext w w') : RowsIn w' v V n L := ⟨h.row.ext x, fun i hi => (h.bs i hi).ext x⟩
theorem RowsIn.cell {w : World} {v : Value} {V : Nat → Value} {n : Nat} {L : Nat → List UInt8} (h : RowsIn w v V n L) {i : Nat} (hi : i < n) : w.cell? (at_ v i) = some (V i) :=
  h.row.sl.cell i _ (by have := flat_get (sz := 1) (j := 0) (fun i _ => V i) hi (by decide); simpa using this)
theorem RowsIn.nil (w : World) (V : Nat → Value) (L : Nat → List UInt8) : RowsIn w (.slice none 0 0) V 0 L := ⟨Own.nil _ _ _, fun i hi => by omega⟩

/-- One list more. -/
theorem RowsIn.push {w w2 : World} {v v' u : Value} {V : Nat → Value} {n : Nat} {L : Nat → List UInt8} (h : RowsIn w v V n L) (M : Mod (fun q => v.ownBlock = some q) w w2) (o : Own w2 27 1 v' (n + 1) (flat 1 n (fun i _ => V i) ++ [u]))
    (ob : Own w 5 1 u (L n).length ((L n).map bv)) : RowsIn w2 v' (upd V n u) (n + 1) L := by
  refine ⟨?_, fun i hi => ?_⟩
  · have e : flat 1 (n + 1) (fun i _ => upd V n u i) = flat 1 n (fun i _ => V i) ++ [u] := by
      rw [flat_succ _ _ _ (by decide)]
      have e1 : flat 1 n (fun i _ => upd V n u i) = flat 1 n (fun i _ => V i) := flat_congr fun i j hi _ => upd_lt hi
      rw [e1]; simp [upd_same]
    rw [e]; exact o
  · by_cases e : i = n
    · subst e; rw [upd_same]; exact ob.mod M (fun k hk hl => ob.apart h.row (by decide) hk hl)
    · have hi' : i < n := by omega
      rw [upd_lt hi']; exact (h.bs i hi').mod M (fun k hk hl => (h.bs i hi').apart h.row (by decide) hk hl)

set_option maxRecDepth 100000 in
theorem all_any (w : World) (p : Value) (m : List Blk) (S : Nat → Prop) (h : BlocksAt w p m S) :
    Calls Try.prog 25 #[p] w fun e w' => ∃ v V, e = .returned v ∧ RowsIn w' v V m.length (fun i => (blk m i).b) ∧ Ext w w' := by
  obtain ⟨pb, lv, V, Y, rfl, hin, _⟩ := h.ex
  clear h
  have c0 := cell_of_one hin.box
  have l0 := hin.row.sl.run_len (P := Try.prog) I1.und 3
  have hcnt := hin.ok.cnt
  go_enter Try.func25, Try.ntmps25
  go_wp2
  go_loopw [3, 11] (fun s3 s11 wr => ∃ k V', k ≤ m.length ∧ s11 = .int .i64 (k : Int) ∧ RowsIn wr s3 V' k (fun i => (blk m i).b) ∧ Ext w wr ∧ ∀ q, s3.ownBlock = some q → w.heap.size ≤ q) (fun _ i _ => m.length - (intOf i).toNat)
  case atStart => exact ⟨0, V, Nat.zero_le _, rfl, RowsIn.nil _ _ _, Mod.refl _ _, fun q hq => by cases hq⟩
  case round =>
    obtain ⟨k, V', hk, rfl, hr, x, hf⟩ := hrel
    by_cases hlt : k < m.length
    · have hlt' : (k : Int) < (m.length : Int) := by omega
      have i0 := hin.row.sl.run_idx (P := Try.prog) I1.und I1.size .i64 k hlt
      have c1 := x.cell (hin.cV hlt)
      have c2 := x.cell (hin.cY hlt)
      have b1 := (hin.bs k hlt).ext x
      have b2 := (hin.ys k hlt).ext x
      have k1 := b1.sl.cells_eq
      have k2 := b2.sl.cells_eq
      have t1 := b1.sl.run_st (P := Try.prog)
      have t2 := b2.sl.run_st (P := Try.prog)
      have htop := hin.ok.top k hlt
      have H := Lib.hid (And.intro hin (And.intro hr (And.intro x (And.intro b1 hf))))
      clear hin hr x b1 b2 hf
      go_wp2_with fail
      refine (clone_bytes _ _ (blk m k).b (H.out.2.2.2.1.sl.ext (by decide) (Mod.alloc (Mod.refl _ _) _)) (by omega)).mono ?_
      rintro e w1 ⟨v1, rfl, o1, x1, f1⟩
      rw [List.length_map] at o1
      obtain ⟨la, lc, hv1, _⟩ := o1.sl.shape
      subst hv1
      have XW : Ext wr w1 := (Mod.alloc (Mod.refl _ _) _).trans x1
      have hr1 := H.out.2.1.ext XW
      have f2 : ∀ q, u3.ownBlock = some q → q < w1.heap.size := fun q hq => hr1.row.lt hq
      have one1 : ∀ x ∈ [Value.slice la (blk m k).b.length lc], x.oneCell' = true := by intro x hx; simp at hx; subst hx; rfl
      have O := Lib.hid (And.intro o1 (And.intro XW f1))
      clear o1 x1 f1 XW
      go_wp2_with (at_builtin; go_loud (refine wpList_app IBB rfl (.tmp 15) (.tmp 19) rfl (hr1.row.ext (Mod.alloc (Mod.refl _ _) _)) (built_sl (n := 1) (g := w1.heap.size) (e := 27) (cs := #[Value.slice la (blk m k).b.length lc]) (by simp only [heap_alloc_if, if_true]) rfl (by simp only [maxLen]; omega)) one1 (by simp [Act.eval]) (by simp [Act.eval]) (by omega) (by simp only [maxLen]; omega) ?_); intro lv' w2 ol2 gr2 fr2 nn2; have HH := Lib.hid (And.intro ol2 (And.intro gr2 fr2)); clear ol2 gr2 fr2 nn2)
      go_roundw
      case rel =>
        obtain ⟨ol2, gr2, fr2⟩ := HH.out
        have M2 : Mod (fun q => u3.ownBlock = some q) w1 w2 := Mod.grown (Mod.alloc (Mod.refl _ _) _) gr2 (fun q h => .inl h)
        refine ⟨k + 1, _, by omega, by go_num, hr1.push M2 ol2 O.out.1, (H.out.2.2.1.trans O.out.2.1).trans' M2 (fun q hq => .inr (H.out.2.2.2.2 q hq)), fun q hq => ?_⟩
        · rcases fr2 q hq with h | h
          · exact H.out.2.2.2.2 q h
          · simp only [World.size_alloc] at h
            have := O.out.2.1.size
            have := H.out.2.2.1.size
            omega
      case measure => simp [intOf]; omega
    · have hlt' : ¬ (k : Int) < (m.length : Int) := by omega
      obtain rfl : k = m.length := by omega
      go_wp2
      go_ret
      exact ⟨_, rfl, ⟨_, hr⟩, x⟩
end Go.Proofs.Ytnnciakdeoopaaa
