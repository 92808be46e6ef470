/-
  The library's slices.Sort and slices.Compact at []int: their bodies are the shelf's. No condition. Sorted, each once: what Sync's edges come from. No condition, no program. The contracts of slices.Sort and slices.Compact at a row of the call's own. No condition.
-/
import Derived.Test.YtbhocahmhmafmaaMBaseA
import Derived.Shelf.Sort.Plain
import Derived.Shelf.Slices.CompactI
import Derived.Shelf.Slices.In.SortNone
import Derived.Sort.OwnSortedInts
import Derived.Test.YtbhocahmhmafmaaMElemAt
import Derived.Lib.SlicesCompact
namespace Go.Proofs.Ytbhocahmhmafmaa
open Go.Shelf
set_option linter.unusedVariables false
set_option maxRecDepth 100000 in
def renSort : Go.Shelf.Ren := ⟨fun n => bif n == 125 then 80 else bif n == 128 then 98 else bif n == 129 then 99 else bif n == 189 then 54 else bif n == 215 then 106 else bif n == 216 then 95 else bif n == 257 then 79 else bif n == 294 then 89 else bif n == 295 then 90 else bif n == 296 then 91 else bif n == 297 then 92 else bif n == 298 then 93 else bif n == 299 then 94 else bif n == 300 then 96 else bif n == 301 then 97 else bif n == 328 then 101 else bif n == 329 then 102 else bif n == 330 then 103 else bif n == 331 then 104 else bif n == 332 then 105 else bif n == 343 then 107 else 0, fun t => bif t == 0 then 0 else bif t == 3 then 3 else bif t == 4 then 4 else bif t == 5 then 5 else bif t == 9 then 9 else bif t == 28 then 48 else bif t == 46 then 35 else bif t == 51 then 141 else bif t == 53 then 23 else bif t == 131 then 138 else bif t == 182 then 132 else bif t == 183 then 133 else bif t == 218 then 144 else bif t == 222 then 147 else bif t == 228 then 149 else bif t == 229 then 150 else 0, fun g => g⟩
theorem renSort_ok : Lays.n189 Try.prog renSort where
  mixed := by kernel_rfl
  f125 := (show Try.prog.funcs[80]? = some Try.f80 from Try.func80).trans (congrArg some (by kernel_rfl))
  f128 := (show Try.prog.funcs[98]? = some Try.f98 from Try.func98).trans (congrArg some (by kernel_rfl))
  f129 := (show Try.prog.funcs[99]? = some Try.f99 from Try.func99).trans (congrArg some (by kernel_rfl))
  f189 := (show Try.prog.funcs[54]? = some Try.f54 from Try.func54).trans (congrArg some (by kernel_rfl))
  f215 := (show Try.prog.funcs[106]? = some Try.f106 from Try.func106).trans (congrArg some (by kernel_rfl))
  f216 := (show Try.prog.funcs[95]? = some Try.f95 from Try.func95).trans (congrArg some (by kernel_rfl))
  f257 := (show Try.prog.funcs[79]? = some Try.f79 from Try.func79).trans (congrArg some (by kernel_rfl))
  f294 := (show Try.prog.funcs[89]? = some Try.f89 from Try.func89).trans (congrArg some (by kernel_rfl))
  f295 := (show Try.prog.funcs[90]? = some Try.f90 from Try.func90).trans (congrArg some (by kernel_rfl))
  f296 := (show Try.prog.funcs[91]? = some Try.f91 from Try.func91).trans (congrArg some (by kernel_rfl))
  f297 := (show Try.prog.funcs[92]? = some Try.f92 from Try.func92).trans (congrArg some (by kernel_rfl))
  f298 := (show Try.prog.funcs[93]? = some Try.f93 from Try.func93).trans (congrArg some (by kernel_rfl))
  f299 := (show Try.prog.funcs[94]? = some Try.f94 from Try.func94).trans (congrArg some (by kernel_rfl))
  f300 := (show Try.prog.funcs[96]? = some Try.f96 from Try.func96).trans (congrArg some (by kernel_rfl))
  f301 := (show Try.prog.funcs[97]? = some Try.f97 from Try.func97).trans (congrArg some (by kernel_rfl))
  f328 := (show Try.prog.funcs[101]? = some Try.f101 from Try.func101).trans (congrArg some (by kernel_rfl))
  f329 := (show Try.prog.funcs[102]? = some Try.f102 from Try.func102).trans (congrArg some (by kernel_rfl))
  f330 := (show Try.prog.funcs[103]? = some Try.f103 from Try.func103).trans (congrArg some (by kernel_rfl))
  f331 := (show Try.prog.funcs[104]? = some Try.f104 from Try.func104).trans (congrArg some (by kernel_rfl))
  f332 := (show Try.prog.funcs[105]? = some Try.f105 from Try.func105).trans (congrArg some (by kernel_rfl))
  f343 := (show Try.prog.funcs[107]? = some Try.f107 from Try.func107).trans (congrArg some (by kernel_rfl))
  t0 := Try.underlying0
  a0 := Try.isAgg0
  z0 := Try.sizeOf0
  v0 := Try.zeroValue0
  t3 := Try.underlying3
  a3 := Try.isAgg3
  z3 := Try.sizeOf3
  v3 := Try.zeroValue3
  t4 := Try.underlying4
  a4 := Try.isAgg4
  z4 := Try.sizeOf4
  v4 := Try.zeroValue4
  t5 := Try.underlying5
  a5 := Try.isAgg5
  z5 := Try.sizeOf5
  v5 := Try.zeroValue5
  t9 := Try.underlying9
  a9 := Try.isAgg9
  z9 := Try.sizeOf9
  v9 := Try.zeroValue9
  t28 := Try.underlying48
  a28 := Try.isAgg48
  z28 := Try.sizeOf48
  v28 := Try.zeroValue48
  t46 := Try.underlying35
  a46 := Try.isAgg35
  z46 := Try.sizeOf35
  v46 := Try.zeroValue35
  t51 := Try.underlying141
  a51 := Try.isAgg141
  z51 := Try.sizeOf141
  v51 := Try.zeroValue141
  t53 := Try.underlying23
  a53 := Try.isAgg23
  z53 := Try.sizeOf23
  v53 := Try.zeroValue23
  t131 := Try.underlying138
  a131 := Try.isAgg138
  z131 := Try.sizeOf138
  v131 := Try.zeroValue138
  t182 := Try.underlying132
  a182 := Try.isAgg132
  z182 := Try.sizeOf132
  v182 := Try.zeroValue132
  t183 := Try.underlying133
  a183 := Try.isAgg133
  z183 := Try.sizeOf133
  v183 := Try.zeroValue133
  t218 := Try.underlying144
  a218 := Try.isAgg144
  z218 := Try.sizeOf144
  v218 := Try.zeroValue144
  t222 := Try.underlying147
  a222 := Try.isAgg147
  z222 := Try.sizeOf147
  v222 := Try.zeroValue147
  t228 := Try.underlying149
  a228 := Try.isAgg149
  z228 := Try.sizeOf149
  v228 := Try.zeroValue149
  t229 := Try.underlying150
  a229 := Try.isAgg150
  z229 := Try.sizeOf150
  v229 := Try.zeroValue150
set_option maxRecDepth 100000 in
def renCompact : Go.Shelf.Ren := ⟨fun n => bif n == 20 then 55 else 0, fun t => bif t == 0 then 0 else bif t == 3 then 3 else bif t == 4 then 4 else bif t == 22 then 48 else 0, fun g => g⟩
theorem renCompact_ok : Lays2.n20 Try.prog renCompact where
  mixed := by kernel_rfl
  f20 := (show Try.prog.funcs[55]? = some Try.f55 from Try.func55).trans (congrArg some (by kernel_rfl))
  t0 := Try.underlying0
  a0 := Try.isAgg0
  z0 := Try.sizeOf0
  v0 := Try.zeroValue0
  t3 := Try.underlying3
  a3 := Try.isAgg3
  z3 := Try.sizeOf3
  v3 := Try.zeroValue3
  t4 := Try.underlying4
  a4 := Try.isAgg4
  z4 := Try.sizeOf4
  v4 := Try.zeroValue4
  t22 := Try.underlying48
  a22 := Try.isAgg48
  z22 := Try.sizeOf48
  v22 := Try.zeroValue48
  i3 := by kernel_rfl
end Go.Proofs.Ytbhocahmhmafmaa
namespace Go.Ren
set_option linter.unusedVariables false
theorem strict_ext : ∀ {a b : List Int}, a.Pairwise (· < ·) → b.Pairwise (· < ·) → (∀ x, x ∈ a ↔ x ∈ b) → a = b
  | [], [], _, _, _ => rfl
  | [], y :: b, _, _, h => absurd ((h y).2 (by simp)) (by simp)
  | x :: a, [], _, _, h => absurd ((h x).1 (by simp)) (by simp)
  | x :: a, y :: b, ha, hb, h => by
    rw [List.pairwise_cons] at ha hb
    have e : x = y := by
      have h1 := (h x).1 (by simp)
      have h2 := (h y).2 (by simp)
      rcases List.mem_cons.1 h1 with h1 | h1
      · exact h1
      · rcases List.mem_cons.1 h2 with h2 | h2
        · exact h2.symm
        · have h3 := hb.1 x h1
          have h4 := ha.1 y h2
          omega
    subst e
    rw [strict_ext ha.2 hb.2 fun z => ?_]
    have hz := h z
    constructor
    · intro h1
      rcases List.mem_cons.1 (hz.1 (by simp [h1])) with h2 | h2
      · have := ha.1 z h1; omega
      · exact h2
    · intro h1
      rcases List.mem_cons.1 (hz.2 (by simp [h1])) with h2 | h2
      · have := hb.1 z h1; omega
      · exact h2
section
variable {zs : List Int}
theorem get_sorted (hs : zs.Pairwise (· ≤ ·)) {i j : Nat} (hij : i < j) (hj : j < zs.length) : zs.toArray[i]! ≤ zs.toArray[j]! := by
  have h := List.pairwise_iff_getElem.1 hs i j (by omega) hj hij
  simp [hj, show i < zs.length by omega]
  exact h
theorem compact_strict (hs : zs.Pairwise (· ≤ ·)) : (Lib.compact zs).Pairwise (· < ·) := by
  unfold Lib.compact Lib.compactUpTo
  rw [List.pairwise_map]
  have hr : (List.range zs.length).Pairwise (· < ·) := List.pairwise_lt_range
  have hf : ((List.range zs.length).filter (Lib.keeps zs.toArray)).Pairwise (fun i j => i < j ∧ j < zs.length ∧ Lib.keeps zs.toArray j = true) := by
    rw [List.pairwise_filter]
    refine List.Pairwise.imp_of_mem (fun {a b} ha hb h _ hk => ⟨h, List.mem_range.1 hb, hk⟩) hr
  refine hf.imp ?_
  rintro i j ⟨h1, h2, h3⟩
  unfold Lib.keeps at h3
  rw [decide_eq_true_eq] at h3
  have h4 : zs.toArray[j]! ≠ zs.toArray[j - 1]! := by rcases h3 with h | h; omega; exact h
  have h5 : zs.toArray[j - 1]! ≤ zs.toArray[j]! := get_sorted hs (by omega) h2
  have h6 : zs.toArray[i]! ≤ zs.toArray[j - 1]! := by
    by_cases e : i = j - 1
    · rw [← e]; exact Int.le_refl _
    · exact get_sorted hs (by omega) (by omega)
  omega
theorem compact_mem (x : Int) : x ∈ Lib.compact zs ↔ x ∈ zs := by
  unfold Lib.compact Lib.compactUpTo
  simp only [List.mem_map, List.mem_filter, List.mem_range]
  constructor
  · rintro ⟨i, ⟨hi, _⟩, rfl⟩
    simp [hi]
  · intro hx
    obtain ⟨j, hj, rfl⟩ := List.getElem_of_mem hx
    have key : ∀ j, j < zs.length → ∃ i, (i < zs.length ∧ Lib.keeps zs.toArray i = true) ∧ zs.toArray[i]! = zs.toArray[j]! := by
      intro j
      induction j with
      | zero => intro hj; exact ⟨0, ⟨hj, by simp [Lib.keeps]⟩, rfl⟩
      | succ j ih =>
        intro hj
        by_cases e : zs.toArray[j + 1]! = zs.toArray[j]!
        · obtain ⟨i, h1, h2⟩ := ih (by omega)
          exact ⟨i, h1, h2.trans e.symm⟩
        · exact ⟨j + 1, ⟨hj, by unfold Lib.keeps; rw [decide_eq_true_eq]; exact .inr e⟩, rfl⟩
    obtain ⟨i, h1, h2⟩ := key j hj
    exact ⟨i, h1, h2.trans (by simp [hj])⟩
end
def frOk (s : Shm) (k : Int) : Bool := decide (0 ≤ k ∧ k < (s.L.ev.length : Int)) && drnB (evn s.L.ev k.toNat)
def froms (s : Shm) (fr : List Int) : List Int := fr.filter (frOk s)
def leI (x y : Int) : Bool := decide (x ≤ y)
theorem sync_list (s : Shm) (fr : List Int) : Lib.compact ((froms s fr).mergeSort fun x y => decide (x ≤ y)) = (syL s fr).map fun k : Nat => (k : Int) := by
  have hs : ((froms s fr).mergeSort fun x y => decide (x ≤ y)).Pairwise (· ≤ ·) := by
    have h := List.pairwise_mergeSort (le := fun x y : Int => decide (x ≤ y)) (fun a b c h1 h2 => by simp at h1 h2 ⊢; omega) (fun a b => by simp; omega) (froms s fr)
    exact h.imp (fun h => by simpa using h)
  refine strict_ext (compact_strict hs) ?_ fun x => ?_
  · rw [List.pairwise_map]
    unfold syL
    rw [List.pairwise_filter]
    exact List.Pairwise.imp (fun h _ _ => by omega) List.pairwise_lt_range
  · rw [compact_mem, List.mem_mergeSort]
    unfold froms syL frOk
    simp only [List.mem_filter, List.mem_map, List.mem_range, Bool.and_eq_true, decide_eq_true_eq, List.contains_iff_mem]
    constructor
    · rintro ⟨h1, ⟨h2, h3⟩, h4⟩
      exact ⟨x.toNat, ⟨by omega, by rw [show ((x.toNat : Nat) : Int) = x by omega]; exact h1, h4⟩, by omega⟩
    · rintro ⟨k, ⟨h1, h2, h3⟩, rfl⟩
      exact ⟨h2, ⟨by omega, by omega⟩, by simpa using h3⟩
end Go.Ren
namespace Go.Proofs.Ytbhocahmhmafmaa
open Go.Ren Go.RowKit Go.Sort
set_option linter.unusedVariables false
theorem grown_mod {w w' : World} {g : Nat} (h : w.grownBy w' (some g)) : Ren.Mod (fun q => q = g) w w' := ⟨h.os, h.tape, h.output, h.size, fun k hk hne => h.block k hk (fun e => hne (Option.some.inj e))⟩
def sortI (zs : List Int) : List Int := zs.mergeSort fun x y => decide (x ≤ y)
theorem shsort_any (w : World) (v : Value) (zs : List Int) (h : Own w 3 1 v zs.length (zs.map iv)) (hl : zs.length ≤ 17592186044416) :
    Calls Try.prog 54 #[v] w fun e w' => e = .returned (.tuple #[]) ∧ Own w' 3 1 v zs.length ((sortI zs).map iv) ∧ Ren.Mod (fun q => v.ownBlock = some q) w w' := by
  have hsl : (sortI zs).length = zs.length := List.length_mergeSort zs
  rcases h.2 with ⟨rfl, h0⟩ | ⟨g, cap, cur, rfl, _, hg, h1, h2, h3, h4⟩
  · have hz : zs = [] := List.eq_nil_of_length_eq_zero h0
    subst hz
    refine (Any.slices_Sort_int_none renSort_ok none 0 w).mono ?_
    rintro e w' ⟨rfl, hw⟩
    subst hw
    exact ⟨rfl, by rw [show sortI [] = [] from List.mergeSort_nil]; exact Own.nil _ _ _, Ren.Mod.refl _ _⟩
  · have hH : Holds (Value.int .i64) w g 0 zs.toArray := holds_of_blockI hg (by rw [Nat.mul_one] at h4; exact h4)
    refine (Any.slices_Sort_int renSort_ok g 0 cap zs w hH (lt_of_block hg) (by omega)).mono ?_
    rintro e w' ⟨rfl, n, os, rfl⟩
    refine ⟨rfl, ?_, ?_⟩
    · exact ownsRow_sortedI (ss := zs) (ts := sortI zs) hsl (Nat.zero_le _) hg h1 h2 h3
    · exact (grown_mod (grownBy_sortedI _)).weak (fun q hq => .inl (by subst hq; rfl))
/-- What a list of its own's first part is. -/
theorem shcompact_any (w : World) (v : Value) (zs : List Int) (h : Own w 3 1 v zs.length (zs.map iv)) (hl : zs.length ≤ 17592186044416) :
    Calls Try.prog 55 #[v] w fun e w' => ∃ v', e = .returned v' ∧ Own w' 3 1 v' (Lib.compact zs).length ((Lib.compact zs).map iv) ∧ Ren.Mod (fun q => v.ownBlock = some q) w w' ∧ v'.ownBlock = v.ownBlock := by
  rcases h.2 with ⟨rfl, h0⟩ | ⟨g, cap, cur, rfl, _, hg, h1, h2, h3, h4⟩
  · have hz : zs = [] := List.eq_nil_of_length_eq_zero h0
    subst hz
    refine (Any.slices_Compact_int_empty renCompact_ok none 0 w).mono ?_
    rintro e w' ⟨rfl, rfl⟩
    exact ⟨_, rfl, by show Own _ _ 1 _ 0 []; exact Own.nil _ _ _, Ren.Mod.refl _ _, rfl⟩
  · have hH : Holds (Value.int .i64) w g 0 zs.toArray := holds_of_blockI hg (by rw [Nat.mul_one] at h4; exact h4)
    refine (Any.slices_Compact_int renCompact_ok g 0 cap zs w hH (by omega) h1).mono ?_
    rintro e w' ⟨rfl, q, hw⟩
    have hcl : (Lib.compact zs).length ≤ zs.length := by
      unfold Lib.compact Lib.compactUpTo
      rw [List.length_map]
      exact Nat.le_trans (List.length_filter_le _ _) (by simp)
    obtain ⟨ts, hts⟩ : ∃ ts, ts = Lib.compact zs ++ List.replicate (zs.length - (Lib.compact zs).length) 0 := ⟨_, rfl⟩
    have htl : ts.length = zs.length := by rw [hts]; simp; omega
    have hw2 : w' = grow (putRow (Value.int .i64) (Sort.ahead w q) g 0 ts.toArray) #[] := by rw [hw, grow_empty, hts]
    have hO : Own w' 3 1 (.slice (some ⟨g, 0, none⟩) zs.length cap) zs.length (ts.map iv) := by rw [hw2]; exact ownsRow_sortedI (ss := zs) (ts := ts) htl (Nat.zero_le _) hg h1 h2 h3
    refine ⟨_, rfl, ?_, by rw [hw2]; exact (grown_mod (grownBy_sortedI _)).weak (fun q hq => .inl (by subst hq; rfl)), rfl⟩
    rcases hO.2 with ⟨hn, _⟩ | ⟨g', cap', cur', hv, _, hg', _, _, h7, h8⟩
    · cases hn
    · cases hv
      refine ⟨by simp, .inr ⟨g, cap, cur', rfl, Nat.zero_le _, hg', by omega, h2, h7, ?_⟩⟩
      have h9 := congrArg (List.take ((Lib.compact zs).length)) h8
      rw [List.take_take, Nat.mul_one, Nat.min_eq_left hcl] at h9
      rw [Nat.mul_one, h9, hts, List.map_append, List.take_append_of_le_length (by simp), List.take_of_length_le (by simp)]
end Go.Proofs.Ytbhocahmhmafmaa
