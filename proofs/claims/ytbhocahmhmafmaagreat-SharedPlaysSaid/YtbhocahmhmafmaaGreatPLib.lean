/-
  What a call leaves of memory, slices that are read, rows that the call owns: small laws over any program. They are used by the contracts of this claim's functions. No condition.
-/
import Derived.WalkKit
import Derived.WalkSpells
import Derived.WalkLawsBesides
import Derived.Deep.QuietTactic
import Derived.BigQuiet
import Derived.Deep.OwnRows
import Derived.Laws.CopyOwn
namespace Go.Ren
open Go.RowKit
structure Mod (F : Nat → Prop) (w w' : World) : Prop where
 os : w'.os = w.os
 tape : w'.tape = w.tape
 output : w'.output = w.output
 size : w.heap.size ≤ w'.heap.size
 block : ∀ k, k < w.heap.size → ¬ F k → w'.heap[k]? = w.heap[k]?
def NoF : Nat → Prop := fun _ => False
abbrev Ext (w w' : World) : Prop := Mod NoF w w'
theorem Mod.refl (F : Nat → Prop) (w : World) : Mod F w w := ⟨rfl, rfl, rfl, Nat.le_refl _, fun _ _ _ => rfl⟩
theorem Mod.trans' {F G : Nat → Prop} {a b c : World} (h : Mod F a b) (k : Mod G b c) (hG : ∀ i, G i → F i ∨ a.heap.size ≤ i) : Mod F a c :=
 ⟨k.os.trans h.os, k.tape.trans h.tape, k.output.trans h.output, Nat.le_trans h.size k.size, fun i hi hF =>
  (k.block i (Nat.lt_of_lt_of_le hi h.size) (fun hg => by rcases hG i hg with h1 | h1; exact hF h1; omega)).trans (h.block i hi hF)⟩
theorem Mod.trans {F : Nat → Prop} {a b c : World} (h : Mod F a b) (k : Mod F b c) : Mod F a c := h.trans' k fun _ h => .inl h
theorem Mod.ext {F : Nat → Prop} {a b c : World} (h : Mod F a b) (k : Ext b c) : Mod F a c := h.trans' k fun _ h => h.elim
theorem Mod.weak {F G : Nat → Prop} {a b : World} (h : Mod F a b) (hG : ∀ i, F i → G i ∨ a.heap.size ≤ i) : Mod G a b := (Mod.refl G a).trans' h hG
theorem Ext.mod {a b : World} (h : Ext a b) (F : Nat → Prop) : Mod F a b := Mod.weak h fun _ h => h.elim
theorem Mod.alloc {F : Nat → Prop} {a b : World} (h : Mod F a b) (o : Obj) : Mod F a (b.alloc o) :=
 h.trans ⟨rfl, rfl, rfl, by simp, fun k hk _ => Below.heap_alloc _ _ _ hk⟩
theorem Mod.drew {F : Nat → Prop} {a b : World} (h : Mod F a b) : Mod F a b.drew := ⟨h.os, h.tape, h.output, h.size, h.block⟩
theorem Mod.drewN {F : Nat → Prop} {a b : World} (h : Mod F a b) (n : Nat) : Mod F a (b.drewN n) := ⟨h.os, h.tape, h.output, h.size, h.block⟩
theorem Mod.setCell {F : Nat → Prop} {a b : World} (h : Mod F a b) {p : Addr} (hp : F p.block ∨ a.heap.size ≤ p.block) (v : Value) : Mod F a (b.setCell p v) :=
 h.trans' (G := fun k => k = p.block) ⟨rfl, rfl, rfl, by simp [World.setCell], fun k _ hk => Below.heap_setCell _ _ _ _ hk⟩ (by rintro i rfl; exact hp)
theorem Mod.grown {F : Nat → Prop} {a b c : World} {row : Option Nat} (h : Mod F a b) (hg : b.grownBy c row) (hr : ∀ k, row = some k → F k ∨ a.heap.size ≤ k) : Mod F a c :=
 h.trans' (G := fun k => row = some k) ⟨hg.os, hg.tape, hg.output, hg.size, fun k hk hne => hg.block k hk (fun e => hne e.symm)⟩ (fun i hi => hr i hi)
theorem Mod.below {F : Nat → Prop} {a b : World} (h : Mod F a b) {B : Nat} (hB : B ≤ a.heap.size) (hF : ∀ k, F k → B ≤ k) : Below B a b :=
 ⟨h.os, h.tape, h.output, h.size, fun k hk => h.block k (by omega) (fun hf => by have := hF k hf; omega)⟩
theorem Ext.below {a b : World} (h : Ext a b) : Below a.heap.size a b := Mod.below h (Nat.le_refl _) (fun _ h => h.elim)
theorem Mod.cell {F : Nat → Prop} {a b : World} (h : Mod F a b) {p : Addr} {v : Value} (hc : a.cell? p = some v) (hF : ¬ F p.block) : b.cell? p = some v :=
 (World.cell?_of_block (h.block _ (World.block_lt_of_cell? _ _ hc) hF)).trans hc
theorem Ext.cell {a b : World} (h : Ext a b) {p : Addr} {v : Value} (hc : a.cell? p = some v) : b.cell? p = some v := Mod.cell h hc (fun h => h)
theorem Mod.blk {F : Nat → Prop} {a b : World} (h : Mod F a b) {k : Nat} {o : Obj} (hc : a.heap[k]? = some o) (hF : ¬ F k) : b.heap[k]? = some o :=
 (h.block _ (lt_of_block hc) hF).trans hc
theorem Ext.blk {a b : World} (h : Ext a b) {k : Nat} {o : Obj} (hc : a.heap[k]? = some o) : b.heap[k]? = some o := Mod.blk h hc (fun h => h)
def slen : Value → Nat | .slice _ n _ => n | _ => 0
def nilS : Value → Bool | .slice none _ _ => true | _ => false
def at_ (v : Value) (j : Nat) : Addr := match v with | .slice (some p) _ _ => p.add j | _ => ⟨0, 0, none⟩
def sub_ (v : Value) (lo hi sz : Nat) : Value := match v with | .slice a _ c => .slice (if c = lo then a else a.map (·.add (lo * sz))) (hi - lo) (c - lo) | v => v
def fp (v : Value) (k : Nat) : Prop := match v with | .slice (some p) n _ => 0 < n ∧ p.block = k | _ => False
theorem add_add (p : Addr) (i j : Nat) : (p.add i).add j = p.add (i + j) := by
 unfold Addr.add
 by_cases hi : i = 0 <;> by_cases hj : j = 0 <;> simp [hi, hj, Nat.add_assoc]
theorem add_block (p : Addr) (i : Nat) : (p.add i).block = p.block := by unfold Addr.add; split <;> rfl
theorem at_add {v : Value} {a : Addr} {n c : Nat} (h : v = .slice (some a) n c) (i j : Nat) : (at_ v i).add j = at_ v (i + j) := by subst h; exact add_add _ _ _
structure Sl (w : World) (v : Value) (sz n : Nat) (xs : List Value) : Prop where
 shape : ∃ a c, v = .slice a n c ∧ n ≤ c ∧ c ≤ maxLen ∧ (a = none → n = 0 ∧ c = 0)
 len : xs.length = n * sz
 cell : ∀ j u, xs[j]? = some u → w.cell? (at_ v j) = some u
theorem Sl.lt {w : World} {v : Value} {sz n : Nat} {xs : List Value} (h : Sl w v sz n xs) (hsz : 0 < sz) {k : Nat} (hk : fp v k) : k < w.heap.size := by
 obtain ⟨a, c, rfl, h1, h2, h3⟩ := h.shape
 cases a with
 | none => exact hk.elim
 | some p =>
  obtain ⟨hn, rfl⟩ := hk
  have hl : 0 < xs.length := by rw [h.len]; exact Nat.mul_pos hn hsz
  have hc := h.cell 0 xs[0] (by simp [hl])
  have := World.block_lt_of_cell? _ _ hc
  simpa [at_, add_block] using this
theorem Sl.to {w w' : World} {v : Value} {sz n : Nat} {xs : List Value} (h : Sl w v sz n xs) (e : ∀ k, fp v k → w'.heap[k]? = w.heap[k]?) : Sl w' v sz n xs := by
 refine ⟨h.shape, h.len, fun j u hj => ?_⟩
 have hc := h.cell j u hj
 obtain ⟨a, c, rfl, h1, h2, h3⟩ := h.shape
 have hjl : j < xs.length := by
  rcases Nat.lt_or_ge j xs.length with h | h
  · exact h
  · simp [List.getElem?_eq_none h] at hj
 have hn : 0 < n := by
  rcases Nat.eq_zero_or_pos n with h0 | h0
  · have := h.len; simp [h0] at this; simp [this] at hjl
  · exact h0
 cases a with
 | none => have := (h3 rfl).1; omega
 | some p =>
  have hb := e p.block ⟨hn, rfl⟩
  rw [← hc]
  exact World.cell?_of_block (by simpa [at_, add_block] using hb)
theorem Sl.mod {F : Nat → Prop} {w w' : World} {v : Value} {sz n : Nat} {xs : List Value} (h : Sl w v sz n xs) (hsz : 0 < sz) (m : Mod F w w') (hF : ∀ k, fp v k → ¬ F k) : Sl w' v sz n xs :=
 h.to fun k hk => m.block k (h.lt hsz hk) (hF k hk)
theorem Sl.ext {w w' : World} {v : Value} {sz n : Nat} {xs : List Value} (h : Sl w v sz n xs) (hsz : 0 < sz) (m : Ext w w') : Sl w' v sz n xs := h.mod hsz m fun _ _ h => h
section
variable {P : Program} {T E : TypeId} {w : World} {v : Value} {sz n : Nat} {xs : List Value}
theorem Sl.run_len (h : Sl w v sz n xs) (hT : P.underlying T = some (.slice E)) (ty : TypeId) (w' : World) : (Builtin.len_ #[T] ty #[v]).run P w' = .ok (.int .i64 n) w' := by
 obtain ⟨a, c, rfl, h1, h2, h3⟩ := h.shape
 have hm : (n : Int) ≤ 9223372036854775807 := by simp only [maxLen] at h2; omega
 simp [Builtin.len_, run_underlying hT, goInt]
theorem Sl.run_idx (h : Sl w v sz n xs) (hT : P.underlying T = some (.slice E)) (hE : (P.info? E).map (·.size) = some sz) (kd : IntKind) (k : Nat) (hk : k < n) (w' : World) :
 (Instr.indexAt T v (.int kd (k : Int))).run P w' = .ok (.pointer (some (at_ v (k * sz)))) w' := by
 obtain ⟨a, c, rfl, h1, h2, h3⟩ := h.shape
 cases a with
 | none => have := (h3 rfl).1; omega
 | some p =>
  obtain ⟨i, hi, hs⟩ := Option.map_eq_some_iff.1 hE
  have hk' : (k : Int) < (n : Int) := by omega
  simp [Instr.indexAt, asIntOf, run_underlying hT, sizeOf, typeInfo, hi, hs, at_]
  omega
theorem Sl.run_nil (h : Sl w v sz n xs) (hT : P.underlying T = some (.slice E)) (w' : World) : (binOp .eql T v (.slice none 0 0)).run P w' = .ok (.bool (nilS v)) w' := by
 obtain ⟨a, c, rfl, h1, h2, h3⟩ := h.shape
 rw [Lib.run_eql_slice_nil w' T E a n c 0 0 hT]
 cases a <;> rfl
theorem Sl.cells_eq (h : Sl w v sz n xs) : v.cells = #[v] := by
 obtain ⟨a, c, rfl, _⟩ := h.shape; rfl
theorem Sl.one (h : Sl w v sz n xs) : v.oneCell' = true := by
 obtain ⟨a, c, rfl, _⟩ := h.shape; rfl
theorem Sl.run_st (h : Sl w v sz n xs) (a : Addr) (m : Mode) (w' : World) : (store a v m).run P w' = stored P w' a v m := run_store P w' a v m h.one
theorem run_guard_nil {P : Program} (v : Value) (op : BinOp) (t : TypeId) (x y : Operand) (w : World) : (eqGuard op t x y v (.slice none 0 0)).run P w = .ok () w := by
 cases v <;> cases op <;> simp [eqGuard]
theorem Sl.run_sub (h : Sl w v sz n xs) (hT : P.underlying T = some (.slice E)) (hE : (P.info? E).map (·.size) = some sz) (k1 k2 : IntKind) (lo hi : Nat) (h1 : lo ≤ hi) (h2 : hi ≤ n) (w' : World) :
 (Instr.sliceAt T v (some (.int k1 (lo : Int))) (some (.int k2 (hi : Int))) none).run P w' = .ok (sub_ v lo hi sz) w' := by
 obtain ⟨a, c, rfl, hc1, hc2, hc3⟩ := h.shape
 obtain ⟨i, hi', hs⟩ := Option.map_eq_some_iff.1 hE
 have e1 : hi ≤ c := by omega
 simp [Instr.sliceAt, Instr.slice, Instr.sliceBounds, Instr.sliceBound, asIntOf, run_underlying hT, sizeOf, typeInfo, hi', hs, sub_, e1, h1]
theorem Sl.run_sub_lo (h : Sl w v sz n xs) (hT : P.underlying T = some (.slice E)) (hE : (P.info? E).map (·.size) = some sz) (k1 : IntKind) (lo : Nat) (h1 : lo ≤ n) (w' : World) :
 (Instr.sliceAt T v (some (.int k1 (lo : Int))) none none).run P w' = .ok (sub_ v lo n sz) w' := by
 obtain ⟨a, c, rfl, hc1, hc2, hc3⟩ := h.shape
 obtain ⟨i, hi', hs⟩ := Option.map_eq_some_iff.1 hE
 simp [Instr.sliceAt, Instr.slice, Instr.sliceBounds, Instr.sliceBound, asIntOf, run_underlying hT, sizeOf, typeInfo, hi', hs, sub_, h1]
theorem Sl.run_sub_hi (h : Sl w v sz n xs) (hT : P.underlying T = some (.slice E)) (hE : (P.info? E).map (·.size) = some sz) (k2 : IntKind) (hi : Nat) (h2 : hi ≤ n) (w' : World) :
 (Instr.sliceAt T v none (some (.int k2 (hi : Int))) none).run P w' = .ok (sub_ v 0 hi sz) w' := by
 obtain ⟨a, c, rfl, hc1, hc2, hc3⟩ := h.shape
 obtain ⟨i, hi', hs⟩ := Option.map_eq_some_iff.1 hE
 have e1 : hi ≤ c := by omega
 cases a <;> simp [Instr.sliceAt, Instr.slice, Instr.sliceBounds, Instr.sliceBound, asIntOf, run_underlying hT, sizeOf, typeInfo, hi', sub_, e1, Addr.add]
theorem Sl.sub (h : Sl w v sz n xs) (lo hi : Nat) (h1 : lo ≤ hi) (h2 : hi ≤ n) : Sl w (sub_ v lo hi sz) sz (hi - lo) ((xs.drop (lo * sz)).take ((hi - lo) * sz)) := by
 have hcell := h.cell
 have hlen := h.len
 obtain ⟨a, c, rfl, hc1, hc2, hc3⟩ := h.shape
 have hmul : hi * sz ≤ n * sz := Nat.mul_le_mul_right _ h2
 have hsub : (hi - lo) * sz = hi * sz - lo * sz := Nat.sub_mul _ _ _
 refine ⟨⟨_, _, rfl, by omega, by omega, fun ha => ?_⟩, by simp [hlen]; omega, fun j u hj => ?_⟩
 · have ha' : a = none := by
    cases a with
    | none => rfl
    | some p => split at ha <;> simp at ha
   have := hc3 ha'
   omega
 · rw [List.getElem?_take] at hj
   split at hj
   case isFalse => cases hj
   case isTrue hjl =>
    rw [List.getElem?_drop] at hj
    have hx := hcell _ _ hj
    cases a with
    | none =>
     have := (hc3 rfl).1
     have h0 : hi - lo = 0 := by omega
     simp [h0] at hjl
    | some p =>
     have hne : c ≠ lo := by
      intro e
      have h0 : hi - lo = 0 := by omega
      simp [h0] at hjl
     simp only [sub_, if_neg hne, at_, Option.map_some, add_add] at hx ⊢
     exact hx
theorem fp_sub {v : Value} {lo hi sz k : Nat} (h2 : hi ≤ slen v) (h : fp (sub_ v lo hi sz) k) : fp v k := by
 cases v with
 | slice a n c =>
  simp only [slen] at h2
  cases a with
  | none => simp [sub_, fp] at h
  | some p =>
   simp only [sub_] at h
   by_cases e : c = lo
   · rw [if_pos e] at h; exact ⟨by have := h.1; omega, h.2⟩
   · rw [if_neg e] at h; exact ⟨by have := h.1; omega, by have := h.2; rwa [add_block] at this⟩
 | _ => exact h
theorem Sl.cell_off (h : Sl w v sz n xs) {i j : Nat} {u : Value} (hj : 0 < j) (hu : xs[i + j]? = some u) : w.cell? ⟨(at_ v i).block, (at_ v i).off + j, none⟩ = some u := by
 have hc := h.cell _ _ hu
 have hlen := h.len
 obtain ⟨a, c, rfl, _, _, h3⟩ := h.shape
 cases a with
 | none =>
  obtain ⟨rfl, _⟩ := h3 rfl
  have h0 : xs = [] := List.eq_nil_of_length_eq_zero (by simpa using hlen)
  subst h0; simp at hu
 | some p =>
  rw [← at_add rfl] at hc
  have e : (at_ (.slice (some p) n c) i).add j = ⟨(at_ (.slice (some p) n c) i).block, (at_ (.slice (some p) n c) i).off + j, none⟩ := by
   unfold Addr.add; rw [if_neg (by omega)]
  rw [e] at hc; exact hc
theorem Sl.slen_eq (h : Sl w v sz n xs) : slen v = n := by obtain ⟨a, c, rfl, _⟩ := h.shape; rfl
theorem fp_ob {v : Value} {k : Nat} (h : fp v k) : v.ownBlock = some k := by
 cases v with
 | slice a n c => cases a with
  | none => exact h.elim
  | some p => simp [Value.ownBlock]; exact h.2
 | _ => exact h.elim
end
abbrev Own (w : World) (e : TypeId) (sz : Nat) (v : Value) (n : Nat) (xs : List Value) : Prop := w.ownsRow 0 e sz v n xs
section
variable {P : Program} {e : TypeId} {w w' : World} {v : Value} {sz n : Nat} {xs : List Value}
theorem Own.nil (w : World) (e : TypeId) (sz : Nat) : Own w e sz (.slice none 0 0) 0 [] := World.ownsRow_nil w 0 e sz
theorem Own.sl (h : Own w e sz v n xs) : Sl w v sz n xs := by
 refine ⟨?_, h.1, ?_⟩
 · rcases h.2 with ⟨rfl, rfl⟩ | ⟨g, cap, cur, rfl, _, hg, hn, hc, hs, ht⟩
   · exact ⟨none, 0, rfl, Nat.le_refl _, by simp [maxLen], fun _ => ⟨rfl, rfl⟩⟩
   · exact ⟨_, cap, rfl, hn, hc, fun h => by cases h⟩
 · intro j u hj
   rcases h.2 with ⟨rfl, rfl⟩ | ⟨g, cap, cur, rfl, _, hg, hn, hc, hs, ht⟩
   · have := h.1; simp at this; simp [this] at hj
   · exact World.ownsRow.cells h rfl j u hj
theorem Own.lt (h : Own w e sz v n xs) {k : Nat} (hk : v.ownBlock = some k) : k < w.heap.size := (World.ownsRow.lt h k hk).2
theorem Own.to (h : Own w e sz v n xs) (hb : ∀ k, v.ownBlock = some k → w'.heap[k]? = w.heap[k]?) : Own w' e sz v n xs := by
 refine ⟨h.1, ?_⟩
 rcases h.2 with hn | ⟨g, cap, cur, rfl, hz, hg, rest⟩
 · exact .inl hn
 · exact .inr ⟨g, cap, cur, rfl, hz, (hb g rfl).trans hg, rest⟩
theorem Own.mod {F : Nat → Prop} (h : Own w e sz v n xs) (m : Mod F w w') (hF : ∀ k, v.ownBlock = some k → ¬ F k) : Own w' e sz v n xs :=
 h.to fun k hk => m.block k (h.lt hk) (hF k hk)
theorem Own.ext (h : Own w e sz v n xs) (m : Ext w w') : Own w' e sz v n xs := h.mod m fun _ _ h => h
theorem at_own (g n cap j : Nat) : at_ (.slice (some ⟨g, 0, none⟩) n cap) j = ⟨g, j, none⟩ := by
 simp only [at_, Addr.add]
 split
 · rename_i h; rw [h]
 · simp
theorem Own.frozen (h : Own w e sz v n xs) (j : Nat) (hn : 0 < n) : w.frozen? (at_ v j) = false := by
 rcases h.2 with ⟨rfl, rfl⟩ | ⟨g, cap, cur, rfl, hz, hg, rest⟩
 · omega
 · rw [at_own]; exact frozen_of_row w g j cur _ hg
theorem Own.at_eq (h : Own w e sz v n xs) (hn : 0 < n) (j : Nat) : ∃ g cap, v = .slice (some ⟨g, 0, none⟩) n cap ∧ at_ v j = ⟨g, j, none⟩ := by
 rcases h.2 with ⟨rfl, rfl⟩ | ⟨g, cap, cur, rfl, hz, hg, rest⟩
 · omega
 · exact ⟨g, cap, rfl, at_own g n cap j⟩
theorem Own.at_block (h : Own w e sz v n xs) (hn : 0 < n) (j : Nat) : v.ownBlock = some (at_ v j).block := by
 obtain ⟨g, cap, rfl, e⟩ := h.at_eq hn j
 rw [e]; rfl
theorem Own.set (h : Own w e sz v n xs) (hn : 0 < n) (j : Nat) (u : Value) : Own (w.setCell (at_ v j) u) e sz v n (xs.set j u) := by
 obtain ⟨g, cap, rfl, e⟩ := h.at_eq hn j
 rw [e]
 exact (World.ownsRow.stored h j u).1
theorem Own.made (w : World) (cs : Array Value) (e sz n : Nat) (hm : n ≤ maxLen) (hs : cs.size = n * sz) : Own (w.alloc (.cells cs e)) e sz (.slice (some ⟨w.heap.size, 0, none⟩) n n) n cs.toList :=
 World.ownsRow_lit w cs n (Nat.zero_le _) hm hs
theorem heap_alloc_if (w : World) (o : Obj) (k : Nat) : (w.alloc o).heap[k]? = if k = w.heap.size then some o else w.heap[k]? := by
 show (w.heap.push o)[k]? = _
 rw [Array.getElem?_push]
theorem heap_drew (w : World) (k : Nat) : w.drew.heap[k]? = w.heap[k]? := rfl
theorem Own.made_at {w : World} {e g n : Nat} {z : Value} (h : w.heap[g]? = some (.cells (madeCells #[z] n) e (0, 0))) (hn : n ≤ maxLen) : Own w e 1 (.slice (some ⟨g, 0, none⟩) n n) n (List.replicate n z) :=
 ⟨by simp, .inr ⟨g, n, _, rfl, Nat.zero_le _, h, Nat.le_refl _, hn, by simp [size_madeCells], by rw [toList_madeCells_one]; simp⟩⟩
theorem built_own {w : World} {e sz g n : Nat} {cs : Array Value} (h : w.heap[g]? = some (.cells cs e (0, 0))) (hs : cs.size = n * sz) (hn : n ≤ maxLen) : Own w e sz (.slice (some ⟨g, 0, none⟩) n n) n cs.toList :=
 ⟨by simpa using hs, .inr ⟨g, n, cs, rfl, Nat.zero_le _, h, Nat.le_refl _, hn, hs, List.take_of_length_le (by rw [Array.length_toList, hs]; exact Nat.le_refl _)⟩⟩
theorem built_sl {w : World} {e sz g n : Nat} {cs : Array Value} (h : w.heap[g]? = some (.cells cs e (0, 0))) (hs : cs.size = n * sz) (hn : n ≤ maxLen) : Sl w (.slice (some ⟨g, 0, none⟩) n n) sz n cs.toList :=
 Own.sl (built_own h hs hn)
structure EInfo (P : Program) (T e : TypeId) (sz bytes : Nat) (z : Value) : Prop where
 und : P.underlying T = some (.slice e)
 info : (P.info? e).map (fun i => (i.zero, i.size, i.bytes)) = some (some z, sz, bytes)
 zs : z.cells.size = sz
 pos : 0 < sz
theorem EInfo.size {P : Program} {T e : TypeId} {sz bytes : Nat} {z : Value} (h : EInfo P T e sz bytes z) : (P.info? e).map (·.size) = some sz := by
 obtain ⟨i, hi, hz⟩ := Option.map_eq_some_iff.1 h.info
 simp only [Prod.mk.injEq] at hz
 simp [hi, hz]
theorem run_app {T : TypeId} {bytes : Nat} {z : Value} (I : EInfo P T e sz bytes z) (h : Own w e sz v n xs) {u : Value} {m : Nat} {news : List Value} (hu : Sl w u sz m news) (h1 : ∀ x ∈ news, x.oneCell' = true)
 (hb : (n + m) * bytes ≤ 140737488355328) (h63 : n + m ≤ maxLen) (ty : TypeId) :
 ∃ v' w', (Builtin.append_ #[T, T] ty #[v, u]).run P w = .ok v' w' ∧ Own w' e sz v' (n + m) (xs ++ news) ∧ w.grownBy w' v.ownBlock ∧
  (∀ k, v'.ownBlock = some k → v.ownBlock = some k ∨ w.heap.size ≤ k) ∧ (0 < n + m → nilS v' = false) := by
 obtain ⟨i, hi, hz, hsz, hby⟩ := info_parts I.info
 obtain ⟨a, c, rfl, hc1, hc2, hc3⟩ := hu.shape
 cases a with
 | none =>
  obtain ⟨rfl, rfl⟩ := hc3 rfl
  have hnews : news = [] := List.eq_nil_of_length_eq_zero (by simpa using hu.len)
  subst hnews
  refine ⟨v, w, ?_, by simpa using h, ⟨rfl, rfl, rfl, Nat.le_refl _, fun _ _ _ => rfl⟩, fun k hk => .inl hk, fun hp => ?_⟩
  · exact run_append_owned_none (P := P) w 0 T ty e i sz I.und hi v n xs h
  · rcases h.2 with ⟨rfl, rfl⟩ | ⟨g, cap, cur, rfl, _⟩
    · simp at hp
    · rfl
 | some p =>
  have hbase : (0 : Nat) ≤ w.heap.size := Nat.zero_le _
  rcases h.2 with ⟨rfl, rfl⟩ | ⟨g, cap, cur, rfl, _, hg, hnc, hcm, hcs, ht⟩
  · have hx : xs = [] := List.eq_nil_of_length_eq_zero (by simpa using h.1)
    subst hx
    have h' : w.ownsRow w.heap.size e sz (.slice none 0 0) 0 [] := World.ownsRow_nil w _ e sz
    obtain ⟨v', w', hr, h2, h3, h4⟩ := run_append_own (P := P) w w.heap.size T ty e i z sz bytes I.und hi hz hsz hby I.zs I.pos (.slice none 0 0) 0 [] h' p m c news hu.len
     (fun j x hj => hu.cell j x hj) h1 h63 hb (Nat.le_refl _)
    refine ⟨v', w', hr, ⟨h2.1, ?_⟩, h3, fun k hk => .inr (h2.lt k hk).1, fun hp => ?_⟩
    · rcases h2.2 with hn | ⟨g, cap, cur, e1, e2, e3⟩
      · exact .inl hn
      · exact .inr ⟨g, cap, cur, e1, Nat.zero_le _, e3⟩
    · rcases h2.2 with ⟨_, hn⟩ | ⟨g, cap, cur, rfl, _⟩
      · omega
      · rfl
  · subst hsz
    subst hby
    have hlen : (xs ++ news).length = (n + m) * i.size := by rw [List.length_append, h.1, hu.len, Nat.add_mul]
    by_cases hroom : n + m ≤ cap
    · have hfit : n * i.size + news.length ≤ cur.size := by rw [hu.len, hcs, ← Nat.add_mul]; exact Nat.mul_le_mul_right _ hroom
      have hr := run_append_room (P := P) w T ty e i I.und hi g n cap cur hg p m c news hu.len (fun j x hj => hu.cell j x hj) h1 hroom hfit
      refine ⟨_, _, hr, ⟨hlen, .inr ⟨g, cap, _, rfl, Nat.zero_le _, setRow_heap w g cur _ e _ hg, hroom, hcm, ?_, ?_⟩⟩, ⟨rfl, rfl, rfl, by simp, fun k _ hk => setRow_other w g k _ (fun e => hk (by simp [Value.ownBlock, e]))⟩, fun k hk => .inl hk, fun _ => rfl⟩
      · simp only [List.size_toArray, List.length_append, List.length_take, List.length_drop, Array.length_toList]
        omega
      · rw [ht, ← hlen]
        exact List.take_left
    · have holds : ∀ j x, xs[j]? = some x → w.cell? ((⟨g, 0, none⟩ : Addr).add j) = some x := World.ownsRow.cells (g := g) h rfl
      have hr := run_append_grow (P := P) w T ty e i z I.und hi hz ⟨g, 0, none⟩ n cap xs h.1 holds p m c news hu.len (fun j x hj => hu.cell j x hj) (by omega) (by simp only [maxLen] at h63; omega) (growslice_fits (by omega) hb)
      have hge := grownCap_ge w (n + m) cap e
      have hcm' : grownCap w (n + m) cap e ≤ maxLen := grownCap_le_maxLen w (n + m) cap e h63
      refine ⟨_, _, hr, ⟨hlen, .inr ⟨w.heap.size, _, _, rfl, Nat.zero_le _, heap_alloc_new w.drew _, hge, hcm', ?_, ?_⟩⟩, ⟨rfl, rfl, rfl, by simp, fun k hk _ => Below.heap_alloc w.drew _ k hk⟩, fun k hk => .inr ?_, fun _ => rfl⟩
      · simp only [Array.size_append, List.size_toArray, size_zeroCells, I.zs, h.1, hu.len, ← Nat.add_mul]
        congr 1
        omega
      · simp only [Array.toList_append, List.append_assoc]
        rw [← List.append_assoc, ← hlen]
        exact List.take_left
      · simp only [Value.ownBlock, Option.some.injEq] at hk
        omega
theorem wp_app {T : TypeId} {bytes : Nat} {z : Value} (I : EInfo P T e sz bytes z) {o : Oper} {a : Act} {K : Act → World → Prop} {Q : Exit → Act → World → Prop} (s x : Operand)
 (ho : o.op = .call { callee := .builtin .append, args := #[s, x], argTypes := #[T, T] }) {u : Value} {m : Nat} {news : List Value}
 (h : Own w e sz v n xs) (hu : Sl w u sz m news) (h1 : ∀ x ∈ news, x.oneCell' = true) (hs : a.eval s = v) (hx : a.eval x = u)
 (hb : (n + m) * bytes ≤ 140737488355328) (h63 : n + m ≤ maxLen)
 (hK : ∀ v' w', Own w' e sz v' (n + m) (xs ++ news) → w.grownBy w' v.ownBlock → (∀ k, v'.ownBlock = some k → v.ownBlock = some k ∨ w.heap.size ≤ k) → (0 < n + m → nilS v' = false) → K (a.put o.dst v') w') : o.wp P a w K Q := by
 obtain ⟨v', w', hr, h2, h3, h4, h5⟩ := run_app (P := P) I h hu h1 hb h63 o.type
 unfold Oper.wp execOp
 simp only [ho, resolve, invoke, builtin, Sem.run_bind, Sem.run_pure, Result.andThen_ok, List.map_toArray, List.map_cons, List.map_nil, hs, hx, hr]
 exact hK v' w' h2 h3 h4 h5
theorem step_app {T : TypeId} {bytes : Nat} {z : Value} (I : EInfo P T e sz bytes z) {ops : Array Oper} {o : Oper} {a : Act} {K : Act → World → Prop} {Q : Exit → Act → World → Prop} {E : Prop} (hg : o.guard = none) (s x : Operand)
 (ho : o.op = .call { callee := .builtin .append, args := #[s, x], argTypes := #[T, T] }) {u : Value} {m : Nat} {news : List Value}
 (h : Own w e sz v n xs) (hu : Sl w u sz m news) (h1 : ∀ x ∈ news, x.oneCell' = true) (hs : a.eval s = v) (hx : a.eval x = u)
 (hb : (n + m) * bytes ≤ 140737488355328) (h63 : n + m ≤ maxLen)
 (hK : ∀ v' w', Own w' e sz v' (n + m) (xs ++ news) → w.grownBy w' v.ownBlock → (∀ k, v'.ownBlock = some k → v.ownBlock = some k ∨ w.heap.size ≤ k) → (0 < n + m → nilS v' = false) → K (a.put o.dst v') w') :
 if Region.wanted o (yielded ops a.tmps) = true then o.wp P a w K Q else E := by
 rw [if_pos (by simp [Region.wanted, hg])]
 exact wp_app I s x ho h hu h1 hs hx hb h63 hK
theorem wpList_app {T : TypeId} {bytes : Nat} {z : Value} (I : EInfo P T e sz bytes z) {ops : Array Oper} {rest : List Oper} {o : Oper} {a : Act} {Q : Exit → Act → World → Prop} (hgd : o.guard = none) (s x : Operand)
 (ho : o.op = .call { callee := .builtin .append, args := #[s, x], argTypes := #[T, T] }) {u : Value} {m : Nat} {news : List Value}
 (h : Own w e sz v n xs) (hu : Sl w u sz m news) (h1 : ∀ x ∈ news, x.oneCell' = true) (hs : a.eval s = v) (hx : a.eval x = u)
 (hb : (n + m) * bytes ≤ 140737488355328) (h63 : n + m ≤ maxLen)
 (hK : ∀ v' w', Own w' e sz v' (n + m) (xs ++ news) → w.grownBy w' v.ownBlock → (∀ k, v'.ownBlock = some k → v.ownBlock = some k ∨ w.heap.size ≤ k) → (0 < n + m → nilS v' = false) → wpList P ops Q rest (a.put o.dst v') w') : wpList P ops Q (o :: rest) a w :=
 wpList_plain hgd fun _ hK' => wp_app I s x ho h hu h1 hs hx hb h63 fun v' w' h2 h3 h4 h5 => hK' _ _ (hK v' w' h2 h3 h4 h5)
end
theorem Own.ty {w : World} {e : TypeId} {v : Value} {sz n : Nat} {xs : List Value} (h : Own w e sz v n xs) {k : Nat} (hk : v.ownBlock = some k) : ∃ cur, w.heap[k]? = some (.cells cur e (0, 0)) := by
 rcases h.2 with ⟨rfl, rfl⟩ | ⟨g, cap, cur, rfl, _, hg, _⟩
 · cases hk
 · simp [Value.ownBlock] at hk; subst hk; exact ⟨cur, hg⟩
theorem Own.apart {w : World} {e e' : TypeId} {v v' : Value} {sz n sz' n' : Nat} {xs xs' : List Value} (h : Own w e sz v n xs) (h' : Own w e' sz' v' n' xs') (hne : e ≠ e') {k : Nat} (hk : v.ownBlock = some k) (hk' : v'.ownBlock = some k) : False := by
 obtain ⟨c, h1⟩ := h.ty hk
 obtain ⟨c', h2⟩ := h'.ty hk'
 rw [h1] at h2; simp at h2; exact hne h2.2
theorem Own.apart_obj {w : World} {e e' : TypeId} {v : Value} {sz n : Nat} {xs : List Value} {cs : Array Value} {k : Nat} (h : Own w e sz v n xs) (hb : w.heap[k]? = some (.cells cs e' (0, 0))) (hne : e ≠ e') (hk : v.ownBlock = some k) : False := by
 obtain ⟨c, h1⟩ := h.ty hk
 rw [hb] at h1; simp at h1; exact hne h1.2.symm
def flat (sz n : Nat) (f : Nat → Nat → Value) : List Value := (List.range (n * sz)).map fun j => f (j / sz) (j % sz)
theorem flat_len (sz n : Nat) (f : Nat → Nat → Value) : (flat sz n f).length = n * sz := by simp [flat]
theorem flat_get {sz n i j : Nat} (f : Nat → Nat → Value) (hi : i < n) (hj : j < sz) : (flat sz n f)[i * sz + j]? = some (f i j) := by
 have h : i * sz + j < n * sz := by
  have h1 : (i + 1) * sz ≤ n * sz := Nat.mul_le_mul_right _ hi
  have h2 : (i + 1) * sz = i * sz + sz := by rw [Nat.add_mul, Nat.one_mul]
  omega
 have h3 : (i * sz + j) / sz = i := by rw [Nat.mul_comm, Nat.mul_add_div (by omega), Nat.div_eq_of_lt hj]; rfl
 have h4 : (i * sz + j) % sz = j := by rw [Nat.mul_comm, Nat.mul_add_mod, Nat.mod_eq_of_lt hj]
 simp [flat, h, h3, h4]
theorem flat_succ (sz n : Nat) (f : Nat → Nat → Value) (hs : 0 < sz) : flat sz (n + 1) f = flat sz n f ++ (List.range sz).map (f n) := by
 apply List.ext_getElem?
 intro j
 have e : (n + 1) * sz = n * sz + sz := by rw [Nat.add_mul, Nat.one_mul]
 by_cases h1 : j < n * sz
 · rw [List.getElem?_append_left (by rw [flat_len]; exact h1)]
   simp [flat, h1, show j < (n + 1) * sz by omega]
 · rw [List.getElem?_append_right (by rw [flat_len]; omega), flat_len]
   by_cases h2 : j < (n + 1) * sz
   · have h3 : j / sz = n := by
      refine Nat.div_eq_of_lt_le (by omega) (by omega)
     have h4 : j % sz = j - n * sz := by have := Nat.div_add_mod j sz; rw [h3, Nat.mul_comm] at this; omega
     simp [flat, h2, h3, h4, show j - n * sz < sz by omega]
   · simp [flat, h2, show ¬ j - n * sz < sz by omega]
theorem flat_congr {sz n : Nat} {f g : Nat → Nat → Value} (h : ∀ i j, i < n → j < sz → f i j = g i j) : flat sz n f = flat sz n g := by
 unfold flat
 refine List.map_congr_left fun j hj => ?_
 have hj' : j < n * sz := by simpa using hj
 have hsz : 0 < sz := by rcases Nat.eq_zero_or_pos sz with h0 | h0; simp [h0] at hj'; exact h0
 exact h _ _ (Nat.div_lt_of_lt_mul (by rw [Nat.mul_comm]; exact hj')) (Nat.mod_lt _ hsz)
theorem one_flat {sz n : Nat} {f : Nat → Nat → Value} (h : ∀ i j, i < n → j < sz → (f i j).oneCell' = true) : ∀ x ∈ flat sz n f, x.oneCell' = true := by
 intro x hx
 obtain ⟨j, hj, rfl⟩ := List.mem_map.1 hx
 have hj' : j < n * sz := by simpa using hj
 have hsz : 0 < sz := by rcases Nat.eq_zero_or_pos sz with h0 | h0; simp [h0] at hj'; exact h0
 exact h _ _ (Nat.div_lt_of_lt_mul (by rw [Nat.mul_comm]; exact hj')) (Nat.mod_lt _ hsz)
theorem flat_set {sz n i j : Nat} (f : Nat → Nat → Value) (hj : j < sz) (u : Value) : (flat sz n f).set (i * sz + j) u = flat sz n (fun a b => if a = i ∧ b = j then u else f a b) := by
 apply List.ext_getElem?
 intro t
 rw [List.getElem?_set, flat_len]
 have h3 : (i * sz + j) / sz = i := by rw [Nat.mul_comm, Nat.mul_add_div (by omega), Nat.div_eq_of_lt hj]; rfl
 have h4 : (i * sz + j) % sz = j := by rw [Nat.mul_comm, Nat.mul_add_mod, Nat.mod_eq_of_lt hj]
 by_cases e : i * sz + j = t
 · subst e
   by_cases hl : i * sz + j < n * sz
   · simp [flat, hl, h3, h4]
   · simp [flat, hl]
 · rw [if_neg e]
   by_cases hl : t < n * sz
   · have hne : ¬ (t / sz = i ∧ t % sz = j) := by
      rintro ⟨a, b⟩
      have := Nat.div_add_mod t sz
      rw [a, b, Nat.mul_comm] at this
      omega
     simp [flat, hl, hne]
   · simp [flat, hl]
theorem splice_nil {α : Type} (L : List α) (off : Nat) : splice L off [] = L := by simp [splice]
theorem splice_map {α β : Type} (f : α → β) (L : List α) (off : Nat) (cs : List α) : (splice L off cs).map f = splice (L.map f) off (cs.map f) := by
 simp [splice]
theorem splice_set {α : Type} (L : List α) (off k : Nat) (u : α) (h : off + k < L.length) : (splice L off (List.replicate k u)).set (off + k) u = splice L off (List.replicate (k + 1) u) := by
 apply List.ext_getElem?
 intro j
 have hl : (splice L off (List.replicate k u)).length = L.length := length_splice _ _ _ (by simp; omega)
 have hget : ∀ n t, off + n ≤ L.length → (splice L off (List.replicate n u))[t]? = if t < off then L[t]? else if t < off + n then some u else L[t]? := by
  intro n t hn
  unfold splice
  by_cases h1 : t < off
  · rw [List.getElem?_append_left (by simp; omega), if_pos h1, List.getElem?_take, if_pos h1]
  · rw [List.getElem?_append_right (by simp; omega), if_neg h1]
    have e : (L.take off).length = off := by simp; omega
    rw [e]
    by_cases h2 : t < off + n
    · rw [List.getElem?_append_left (by simp; omega), if_pos h2, List.getElem?_replicate, if_pos (by omega)]
    · rw [List.getElem?_append_right (by simp; omega), if_neg h2, List.length_replicate, List.getElem?_drop]
      congr 1; omega
 rw [List.getElem?_set, hl, hget k j (by omega), hget (k + 1) j (by omega)]
 by_cases e : off + k = j
 · subst e; rw [if_pos rfl, if_pos h, if_neg (by omega), if_pos (by omega)]
 · rw [if_neg e]
   by_cases h1 : j < off
   · simp [h1]
   · rw [if_neg h1, if_neg h1]
     by_cases h2 : j < off + k
     · rw [if_pos h2, if_pos (by omega)]
     · rw [if_neg h2, if_neg (by omega)]
theorem run_copy_own {P : Program} {T T2 e : TypeId} {w : World} {v u : Value} {n m lo : Nat} {xs news : List Value} (hT : P.underlying T = some (.slice e)) (hE : (P.info? e).map (·.size) = some 1) (h : Own w e 1 v n xs) (hlo : lo + m ≤ n) (hu : Sl w u 1 m news) (h1 : ∀ x ∈ news, x.oneCell' = true) (ty : TypeId) :
 ∃ w', (Builtin.copy_ #[T, T2] ty #[sub_ v lo n 1, u]).run P w = .ok (goInt m) w' ∧ Own w' e 1 v n (splice xs lo news) ∧ Mod (fun k => v.ownBlock = some k) w w' := by
 have hnl : news.length = m := by simpa using hu.len
 have hxl : xs.length = n := by simpa using h.1
 have hcell := hu.cell
 obtain ⟨a, c, rfl, hc1, hc2, hc3⟩ := hu.shape
 by_cases hm : m = 0
 · subst hm
   have : news = [] := List.eq_nil_of_length_eq_zero hnl
   subst this
   refine ⟨w, ?_, by rw [splice_nil]; exact h, Mod.refl _ _⟩
   rcases h.2 with ⟨rfl, rfl⟩ | ⟨g, cap, cur, rfl, _⟩
   · have e0 : sub_ (.slice none 0 0) lo 0 1 = .slice none (0 - lo) (0 - lo) := by simp [sub_]
     rw [e0]
     exact run_copy_none (P := P) w T T2 ty e none a (0 - lo) (0 - lo) 0 c hT hE (by simp)
   · exact run_copy_none (P := P) w T T2 ty e _ a (n - lo) (cap - lo) 0 c hT hE (by simp)
 · cases a with
   | none => have := (hc3 rfl).1; omega
   | some p =>
    rcases h.2 with ⟨rfl, rfl⟩ | ⟨g, cap, cur, rfl, _, hg, hnc, hcm, hcs, ht⟩
    · omega
    · have hne : cap ≠ lo := by omega
      have hsz : cur.size = cap := by simpa using hcs
      have hr := run_copy_row (P := P) w T T2 ty e g lo (n - lo) (cap - lo) p m c cur e news hT hE hg (by rw [hnl]; exact (Nat.min_eq_left (by omega)).symm) (fun j x hj => hcell j x hj) (by omega) h1
      have esub : sub_ (.slice (some ⟨g, 0, none⟩) n cap) lo n 1 = .slice (some ⟨g, lo, none⟩) (n - lo) (cap - lo) := by
       simp only [sub_, if_neg hne, Option.map_some, Nat.mul_one]
       congr 2
       unfold Addr.add; split <;> simp_all
      rw [esub]
      refine ⟨_, by rw [hr, hnl], ⟨by rw [length_splice _ _ _ (by omega)]; simpa using hxl, .inr ⟨g, cap, _, rfl, Nat.zero_le _, setRow_heap w g cur _ e _ hg, hnc, hcm, ?_, ?_⟩⟩, ⟨rfl, rfl, rfl, by simp [World.setRow], fun k _ hk => setRow_other w g k _ (fun e => hk (by simp [Value.ownBlock, e]))⟩⟩
      · simp; omega
      · simp only [Nat.mul_one] at ht ⊢
        rw [← ht]
        simp only [splice, List.append_assoc]
        have e1 : (cur.toList.take n).take lo = cur.toList.take lo := by rw [List.take_take, Nat.min_eq_left (by omega)]
        rw [e1]
        rw [List.take_append, List.take_of_length_le (by simp; omega)]
        congr 1
        rw [List.take_append, List.take_of_length_le (by simp; omega)]
        congr 1
        rw [List.drop_take]
        have e2 : (List.take lo cur.toList).length = lo := by rw [List.length_take, Array.length_toList, hsz, Nat.min_eq_left (by omega)]
        rw [e2, Nat.sub_sub, hnl]
theorem wpList_copy {P : Program} {T T2 e : TypeId} {w : World} {v u : Value} {n m lo : Nat} {xs news : List Value} {ops : Array Oper} {rest : List Oper} {o : Oper} {a : Act} {Q : Exit → Act → World → Prop} (hgd : o.guard = none) (s x : Operand)
 (ho : o.op = .call { callee := .builtin .copy, args := #[s, x], argTypes := #[T, T2] }) (hT : P.underlying T = some (.slice e)) (hE : (P.info? e).map (·.size) = some 1)
 (h : Own w e 1 v n xs) (hlo : lo + m ≤ n) (hu : Sl w u 1 m news) (h1 : ∀ x ∈ news, x.oneCell' = true) (hs : a.eval s = sub_ v lo n 1) (hx : a.eval x = u)
 (hK : ∀ w', Own w' e 1 v n (splice xs lo news) → Mod (fun k => v.ownBlock = some k) w w' → wpList P ops Q rest (a.put o.dst (goInt m)) w') : wpList P ops Q (o :: rest) a w := by
 refine wpList_plain hgd fun K hK' => ?_
 obtain ⟨w', hr, h2, h3⟩ := run_copy_own (P := P) (T2 := T2) hT hE h hlo hu h1 o.type
 unfold Oper.wp execOp
 simp only [ho, resolve, invoke, builtin, Sem.run_bind, Sem.run_pure, Result.andThen_ok, List.map_toArray, List.map_cons, List.map_nil, hs, hx, hr]
 exact hK' _ _ (hK w' h2 h3)
def bv (x : UInt8) : Value := .int .u8 (x.toNat : Int)
def iv (x : Int) : Value := .int .i64 x
def I64 (x : Int) : Prop := -9223372036854775808 ≤ x ∧ x ≤ 9223372036854775807
def BytesAt (w : World) (v : Value) (l : List UInt8) : Prop := Sl w v 1 l.length (l.map bv)
structure IntsAt (w : World) (v : Value) (l : List Int) : Prop where
 sl : Sl w v 1 l.length (l.map iv)
 ok : ∀ x ∈ l, I64 x
theorem BytesAt.ext {w w' : World} {v : Value} {l : List UInt8} (h : BytesAt w v l) (m : Ext w w') : BytesAt w' v l := Sl.ext h (by decide) m
theorem BytesAt.mod {F : Nat → Prop} {w w' : World} {v : Value} {l : List UInt8} (h : BytesAt w v l) (m : Mod F w w') (hF : ∀ k, fp v k → ¬ F k) : BytesAt w' v l := Sl.mod h (by decide) m hF
theorem IntsAt.ext {w w' : World} {v : Value} {l : List Int} (h : IntsAt w v l) (m : Ext w w') : IntsAt w' v l := ⟨h.sl.ext (by decide) m, h.ok⟩
theorem one_bv (l : List UInt8) : ∀ x ∈ l.map bv, x.oneCell' = true := by intro x hx; obtain ⟨y, _, rfl⟩ := List.mem_map.1 hx; rfl
theorem one_iv (l : List Int) : ∀ x ∈ l.map iv, x.oneCell' = true := by intro x hx; obtain ⟨y, _, rfl⟩ := List.mem_map.1 hx; rfl
theorem BytesAt.cell {w : World} {v : Value} {l : List UInt8} (h : BytesAt w v l) {k : Nat} (hk : k < l.length) : w.cell? (at_ v k) = some (.int .u8 (l[k].toNat : Int)) :=
 Sl.cell h k _ (by simp [hk, bv])
theorem IntsAt.cell {w : World} {v : Value} {l : List Int} (h : IntsAt w v l) {k : Nat} (hk : k < l.length) : w.cell? (at_ v k) = some (.int .i64 l[k]) :=
 Sl.cell h.sl k _ (by simp [hk, iv])
def cut {α : Type} (l : List α) (a n : Nat) : List α := (l.drop a).take n
theorem cut_bytes {w : World} {v : Value} {l : List UInt8} (h : BytesAt w v l) {a n : Nat} (hn : a + n ≤ l.length) : BytesAt w (sub_ v a (a + n) 1) (cut l a n) := by
 have hs := Sl.sub h a (a + n) (by omega) hn
 have e1 : a + n - a = n := by omega
 rw [e1, Nat.mul_one, Nat.mul_one] at hs
 unfold BytesAt cut
 rw [List.map_take, List.map_drop, List.length_take, List.length_drop, Nat.min_eq_left (by omega)]
 exact hs
theorem cut_ints {w : World} {v : Value} {l : List Int} (h : IntsAt w v l) {a n : Nat} (hn : a + n ≤ l.length) : IntsAt w (sub_ v a (a + n) 1) (cut l a n) := by
 have hs := Sl.sub h.sl a (a + n) (by omega) hn
 have e1 : a + n - a = n := by omega
 rw [e1, Nat.mul_one, Nat.mul_one] at hs
 refine ⟨?_, fun x hx => h.ok x (List.mem_of_mem_drop (List.mem_of_mem_take hx))⟩
 unfold cut
 rw [List.map_take, List.map_drop, List.length_take, List.length_drop, Nat.min_eq_left (by omega)]
 exact hs
theorem cut_len {α : Type} {l : List α} {a n : Nat} (h : a + n ≤ l.length) : (cut l a n).length = n := by simp [cut]; omega
def str (l : List UInt8) : ByteArray := ⟨l.toArray⟩
theorem BytesAt.run_string {P : Program} {T D e : TypeId} {w : World} {v : Value} {l : List UInt8} (h : BytesAt w v l) (hT : P.underlying T = some (.slice e)) (he : P.underlying e = some (.int .u8)) (hD : P.underlying D = some .string) :
 (convert T D v).run P w = .ok (.string (str l)) w := by
 have hcell := Sl.cell h
 have hlen := Sl.len h
 obtain ⟨a, c, rfl, h1, h2, h3⟩ := Sl.shape h
 rw [run_convert_bytes_string w T D e a _ c hT he hD]
 cases a with
 | none =>
  have := (h3 rfl).1
  have hl : l = [] := List.eq_nil_of_length_eq_zero this
  subst hl
  simp [Conv.bytesToString, str]; rfl
 | some p =>
  have hl : (loadCells p l.length).run P w = .ok ((l.map fun x => (x.toNat : Int)).map (Value.int .u8)).toArray w := by
   have := run_loadCells_list (P := P) w p (l.map bv) (fun j u hj => hcell j u hj)
   simpa [List.map_map, Function.comp_def, show bv = (fun x : UInt8 => Value.int .u8 (x.toNat : Int)) from rfl] using this
  rw [run_bytesToString w p _ c _ hl, foldl_push_bytes]
  have e : (ByteArray.empty.data ++ (List.map (fun n : Int => UInt8.ofNat n.toNat) (l.map fun x => (x.toNat : Int))).toArray) = l.toArray := by
   simp [ByteArray.empty, ByteArray.emptyWithCapacity, List.map_map, Function.comp_def]; rfl
  rw [e]; rfl
theorem str_toList (a : List UInt8) : (str a).toList = a := ByteArray.toList_mk a
end Go.Ren
