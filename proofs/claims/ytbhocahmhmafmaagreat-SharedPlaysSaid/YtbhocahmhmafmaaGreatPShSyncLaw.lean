/-
  The library's slices.Sort and slices.Compact at []int: their bodies are the shelf's. No condition. Sorted, each once: what Sync's edges come from. No condition, no program. The contracts of slices.Sort and slices.Compact at a row of the call's own. No condition.
-/
import Derived.Test.YtbhocahmhmafmaaGreatPBaseA
import Derived.Shelf.Sort.Plain
import Derived.Shelf.Slices.CompactI
import Derived.Shelf.Slices.In.SortNone
import Derived.Sort.OwnSortedInts
import Derived.Test.YtbhocahmhmafmaaGreatPElemAt
import Derived.Lib.SlicesCompact
namespace Go.Proofs.YtbhocahmhmafmaaGreat
open Go.Shelf
set_option linter.unusedVariables false
set_option maxRecDepth 100000 in
def renSort : Go.Shelf.Ren := ⟨fun n => bif n == 125 then 150 else bif n == 128 then 175 else bif n == 129 then 176 else bif n == 189 then 102 else bif n == 215 then 186 else bif n == 216 then 172 else bif n == 257 then 149 else bif n == 294 then 166 else bif n == 295 then 167 else bif n == 296 then 168 else bif n == 297 then 169 else bif n == 298 then 170 else bif n == 299 then 171 else bif n == 300 then 173 else bif n == 301 then 174 else bif n == 328 then 181 else bif n == 329 then 182 else bif n == 330 then 183 else bif n == 331 then 184 else bif n == 332 then 185 else bif n == 343 then 187 else 0, fun t => bif t == 0 then 0 else bif t == 3 then 3 else bif t == 4 then 4 else bif t == 5 then 5 else bif t == 9 then 9 else bif t == 28 then 33 else bif t == 46 then 186 else bif t == 51 then 205 else bif t == 53 then 32 else bif t == 131 then 202 else bif t == 182 then 197 else bif t == 183 then 198 else bif t == 218 then 210 else bif t == 222 then 214 else bif t == 228 then 216 else bif t == 229 then 217 else 0, fun g => g⟩
theorem renSort_ok : Lays.n189 Tryz.prog renSort where
 mixed := by kernel_rfl
 f125 := (show Tryz.prog.funcs[150]? = some Tryz.f150 from Tryz.func150).trans (congrArg some (by kernel_rfl))
 f128 := (show Tryz.prog.funcs[175]? = some Tryz.f175 from Tryz.func175).trans (congrArg some (by kernel_rfl))
 f129 := (show Tryz.prog.funcs[176]? = some Tryz.f176 from Tryz.func176).trans (congrArg some (by kernel_rfl))
 f189 := (show Tryz.prog.funcs[102]? = some Tryz.f102 from Tryz.func102).trans (congrArg some (by kernel_rfl))
 f215 := (show Tryz.prog.funcs[186]? = some Tryz.f186 from Tryz.func186).trans (congrArg some (by kernel_rfl))
 f216 := (show Tryz.prog.funcs[172]? = some Tryz.f172 from Tryz.func172).trans (congrArg some (by kernel_rfl))
 f257 := (show Tryz.prog.funcs[149]? = some Tryz.f149 from Tryz.func149).trans (congrArg some (by kernel_rfl))
 f294 := (show Tryz.prog.funcs[166]? = some Tryz.f166 from Tryz.func166).trans (congrArg some (by kernel_rfl))
 f295 := (show Tryz.prog.funcs[167]? = some Tryz.f167 from Tryz.func167).trans (congrArg some (by kernel_rfl))
 f296 := (show Tryz.prog.funcs[168]? = some Tryz.f168 from Tryz.func168).trans (congrArg some (by kernel_rfl))
 f297 := (show Tryz.prog.funcs[169]? = some Tryz.f169 from Tryz.func169).trans (congrArg some (by kernel_rfl))
 f298 := (show Tryz.prog.funcs[170]? = some Tryz.f170 from Tryz.func170).trans (congrArg some (by kernel_rfl))
 f299 := (show Tryz.prog.funcs[171]? = some Tryz.f171 from Tryz.func171).trans (congrArg some (by kernel_rfl))
 f300 := (show Tryz.prog.funcs[173]? = some Tryz.f173 from Tryz.func173).trans (congrArg some (by kernel_rfl))
 f301 := (show Tryz.prog.funcs[174]? = some Tryz.f174 from Tryz.func174).trans (congrArg some (by kernel_rfl))
 f328 := (show Tryz.prog.funcs[181]? = some Tryz.f181 from Tryz.func181).trans (congrArg some (by kernel_rfl))
 f329 := (show Tryz.prog.funcs[182]? = some Tryz.f182 from Tryz.func182).trans (congrArg some (by kernel_rfl))
 f330 := (show Tryz.prog.funcs[183]? = some Tryz.f183 from Tryz.func183).trans (congrArg some (by kernel_rfl))
 f331 := (show Tryz.prog.funcs[184]? = some Tryz.f184 from Tryz.func184).trans (congrArg some (by kernel_rfl))
 f332 := (show Tryz.prog.funcs[185]? = some Tryz.f185 from Tryz.func185).trans (congrArg some (by kernel_rfl))
 f343 := (show Tryz.prog.funcs[187]? = some Tryz.f187 from Tryz.func187).trans (congrArg some (by kernel_rfl))
 t0 := Tryz.underlying0
 a0 := Tryz.isAgg0
 z0 := Tryz.sizeOf0
 v0 := Tryz.zeroValue0
 t3 := Tryz.underlying3
 a3 := Tryz.isAgg3
 z3 := Tryz.sizeOf3
 v3 := Tryz.zeroValue3
 t4 := Tryz.underlying4
 a4 := Tryz.isAgg4
 z4 := Tryz.sizeOf4
 v4 := Tryz.zeroValue4
 t5 := Tryz.underlying5
 a5 := Tryz.isAgg5
 z5 := Tryz.sizeOf5
 v5 := Tryz.zeroValue5
 t9 := Tryz.underlying9
 a9 := Tryz.isAgg9
 z9 := Tryz.sizeOf9
 v9 := Tryz.zeroValue9
 t28 := Tryz.underlying33
 a28 := Tryz.isAgg33
 z28 := Tryz.sizeOf33
 v28 := Tryz.zeroValue33
 t46 := Tryz.underlying186
 a46 := Tryz.isAgg186
 z46 := Tryz.sizeOf186
 v46 := Tryz.zeroValue186
 t51 := Tryz.underlying205
 a51 := Tryz.isAgg205
 z51 := Tryz.sizeOf205
 v51 := Tryz.zeroValue205
 t53 := Tryz.underlying32
 a53 := Tryz.isAgg32
 z53 := Tryz.sizeOf32
 v53 := Tryz.zeroValue32
 t131 := Tryz.underlying202
 a131 := Tryz.isAgg202
 z131 := Tryz.sizeOf202
 v131 := Tryz.zeroValue202
 t182 := Tryz.underlying197
 a182 := Tryz.isAgg197
 z182 := Tryz.sizeOf197
 v182 := Tryz.zeroValue197
 t183 := Tryz.underlying198
 a183 := Tryz.isAgg198
 z183 := Tryz.sizeOf198
 v183 := Tryz.zeroValue198
 t218 := Tryz.underlying210
 a218 := Tryz.isAgg210
 z218 := Tryz.sizeOf210
 v218 := Tryz.zeroValue210
 t222 := Tryz.underlying214
 a222 := Tryz.isAgg214
 z222 := Tryz.sizeOf214
 v222 := Tryz.zeroValue214
 t228 := Tryz.underlying216
 a228 := Tryz.isAgg216
 z228 := Tryz.sizeOf216
 v228 := Tryz.zeroValue216
 t229 := Tryz.underlying217
 a229 := Tryz.isAgg217
 z229 := Tryz.sizeOf217
 v229 := Tryz.zeroValue217
set_option maxRecDepth 100000 in
def renCompact : Go.Shelf.Ren := ⟨fun n => bif n == 20 then 103 else 0, fun t => bif t == 0 then 0 else bif t == 3 then 3 else bif t == 4 then 4 else bif t == 22 then 33 else 0, fun g => g⟩
theorem renCompact_ok : Lays2.n20 Tryz.prog renCompact where
 mixed := by kernel_rfl
 f20 := (show Tryz.prog.funcs[103]? = some Tryz.f103 from Tryz.func103).trans (congrArg some (by kernel_rfl))
 t0 := Tryz.underlying0
 a0 := Tryz.isAgg0
 z0 := Tryz.sizeOf0
 v0 := Tryz.zeroValue0
 t3 := Tryz.underlying3
 a3 := Tryz.isAgg3
 z3 := Tryz.sizeOf3
 v3 := Tryz.zeroValue3
 t4 := Tryz.underlying4
 a4 := Tryz.isAgg4
 z4 := Tryz.sizeOf4
 v4 := Tryz.zeroValue4
 t22 := Tryz.underlying33
 a22 := Tryz.isAgg33
 z22 := Tryz.sizeOf33
 v22 := Tryz.zeroValue33
 i3 := by kernel_rfl
end Go.Proofs.YtbhocahmhmafmaaGreat
namespace Go.Ren
set_option linter.unusedVariables false
theorem strict_ext : ∀ {a b : List Int}, a.Pairwise (· < ·) → b.Pairwise (· < ·) → (∀ x, x ∈ a ↔ x ∈ b) → a = b
 | [], [], _, _, _ => rfl
 | [], y :: b, _, _, h => absurd ((h y).2 (by simp)) (by simp)
 | x :: a, [], _, _, h => absurd ((h x).1 (by simp)) (by simp)
 | x :: a, y :: b, ha, hb, h => by
  rw [List.pairwise_cons] at ha hb
  have e : x = y := by
   have h1 := (h x).1 (by simp)
   have h2 := (h y).2 (by simp)
   rcases List.mem_cons.1 h1 with h1 | h1
   · exact h1
   · rcases List.mem_cons.1 h2 with h2 | h2
     · exact h2.symm
     · have h3 := hb.1 x h1
       have h4 := ha.1 y h2
       omega
  subst e
  rw [strict_ext ha.2 hb.2 fun z => ?_]
  have hz := h z
  constructor
  · intro h1
    rcases List.mem_cons.1 (hz.1 (by simp [h1])) with h2 | h2
    · have := ha.1 z h1; omega
    · exact h2
  · intro h1
    rcases List.mem_cons.1 (hz.2 (by simp [h1])) with h2 | h2
    · have := hb.1 z h1; omega
    · exact h2
section
variable {zs : List Int}
theorem get_sorted (hs : zs.Pairwise (· ≤ ·)) {i j : Nat} (hij : i < j) (hj : j < zs.length) : zs.toArray[i]! ≤ zs.toArray[j]! := by
 have h := List.pairwise_iff_getElem.1 hs i j (by omega) hj hij
 simp [hj, show i < zs.length by omega]
 exact h
theorem compact_strict (hs : zs.Pairwise (· ≤ ·)) : (Lib.compact zs).Pairwise (· < ·) := by
 unfold Lib.compact Lib.compactUpTo
 rw [List.pairwise_map]
 have hr : (List.range zs.length).Pairwise (· < ·) := List.pairwise_lt_range
 have hf : ((List.range zs.length).filter (Lib.keeps zs.toArray)).Pairwise (fun i j => i < j ∧ j < zs.length ∧ Lib.keeps zs.toArray j = true) := by
  rw [List.pairwise_filter]
  refine List.Pairwise.imp_of_mem (fun {a b} ha hb h _ hk => ⟨h, List.mem_range.1 hb, hk⟩) hr
 refine hf.imp ?_
 rintro i j ⟨h1, h2, h3⟩
 unfold Lib.keeps at h3
 rw [decide_eq_true_eq] at h3
 have h4 : zs.toArray[j]! ≠ zs.toArray[j - 1]! := by rcases h3 with h | h; omega; exact h
 have h5 : zs.toArray[j - 1]! ≤ zs.toArray[j]! := get_sorted hs (by omega) h2
 have h6 : zs.toArray[i]! ≤ zs.toArray[j - 1]! := by
  by_cases e : i = j - 1
  · rw [← e]; exact Int.le_refl _
  · exact get_sorted hs (by omega) (by omega)
 omega
theorem compact_mem (x : Int) : x ∈ Lib.compact zs ↔ x ∈ zs := by
 unfold Lib.compact Lib.compactUpTo
 simp only [List.mem_map, List.mem_filter, List.mem_range]
 constructor
 · rintro ⟨i, ⟨hi, _⟩, rfl⟩
   simp [hi]
 · intro hx
   obtain ⟨j, hj, rfl⟩ := List.getElem_of_mem hx
   have key : ∀ j, j < zs.length → ∃ i, (i < zs.length ∧ Lib.keeps zs.toArray i = true) ∧ zs.toArray[i]! = zs.toArray[j]! := by
    intro j
    induction j with
    | zero => intro hj; exact ⟨0, ⟨hj, by simp [Lib.keeps]⟩, rfl⟩
    | succ j ih =>
     intro hj
     by_cases e : zs.toArray[j + 1]! = zs.toArray[j]!
     · obtain ⟨i, h1, h2⟩ := ih (by omega)
       exact ⟨i, h1, h2.trans e.symm⟩
     · exact ⟨j + 1, ⟨hj, by unfold Lib.keeps; rw [decide_eq_true_eq]; exact .inr e⟩, rfl⟩
   obtain ⟨i, h1, h2⟩ := key j hj
   exact ⟨i, h1, h2.trans (by simp [hj])⟩
end
def frOk (s : Shm) (k : Int) : Bool := decide (0 ≤ k ∧ k < (s.L.ev.length : Int)) && drnB (evn s.L.ev k.toNat)
def froms (s : Shm) (fr : List Int) : List Int := fr.filter (frOk s)
theorem sync_list (s : Shm) (fr : List Int) : Lib.compact ((froms s fr).mergeSort fun x y => decide (x ≤ y)) = (syL s fr).map fun k : Nat => (k : Int) := by
 have hs : ((froms s fr).mergeSort fun x y => decide (x ≤ y)).Pairwise (· ≤ ·) := by
  have h := List.pairwise_mergeSort (le := fun x y : Int => decide (x ≤ y)) (fun a b c h1 h2 => by simp at h1 h2 ⊢; omega) (fun a b => by simp; omega) (froms s fr)
  exact h.imp (fun h => by simpa using h)
 refine strict_ext (compact_strict hs) ?_ fun x => ?_
 · rw [List.pairwise_map]
   unfold syL
   rw [List.pairwise_filter]
   exact List.Pairwise.imp (fun h _ _ => by omega) List.pairwise_lt_range
 · rw [compact_mem, List.mem_mergeSort]
   unfold froms syL frOk
   simp only [List.mem_filter, List.mem_map, List.mem_range, Bool.and_eq_true, decide_eq_true_eq, List.contains_iff_mem]
   constructor
   · rintro ⟨h1, ⟨h2, h3⟩, h4⟩
     exact ⟨x.toNat, ⟨by omega, by rw [show ((x.toNat : Nat) : Int) = x by omega]; exact h1, h4⟩, by omega⟩
   · rintro ⟨k, ⟨h1, h2, h3⟩, rfl⟩
     exact ⟨h2, ⟨by omega, by omega⟩, by simpa using h3⟩
end Go.Ren
namespace Go.Proofs.YtbhocahmhmafmaaGreat
open Go.Ren Go.RowKit Go.Sort
set_option linter.unusedVariables false
theorem grown_mod {w w' : World} {g : Nat} (h : w.grownBy w' (some g)) : Ren.Mod (fun q => q = g) w w' := ⟨h.os, h.tape, h.output, h.size, fun k hk hne => h.block k hk (fun e => hne (Option.some.inj e))⟩
def sortI (zs : List Int) : List Int := zs.mergeSort fun x y => decide (x ≤ y)
theorem shsort_any (w : World) (v : Value) (zs : List Int) (h : Own w 3 1 v zs.length (zs.map iv)) (hl : zs.length ≤ 17592186044416) :
 Calls Tryz.prog 102 #[v] w fun e w' => e = .returned (.tuple #[]) ∧ Own w' 3 1 v zs.length ((sortI zs).map iv) ∧ Ren.Mod (fun q => v.ownBlock = some q) w w' := by
 have hsl : (sortI zs).length = zs.length := List.length_mergeSort zs
 rcases h.2 with ⟨rfl, h0⟩ | ⟨g, cap, cur, rfl, _, hg, h1, h2, h3, h4⟩
 · have hz : zs = [] := List.eq_nil_of_length_eq_zero h0
   subst hz
   refine (Any.slices_Sort_int_none renSort_ok none 0 w).mono ?_
   rintro e w' ⟨rfl, hw⟩
   subst hw
   exact ⟨rfl, by rw [show sortI [] = [] from List.mergeSort_nil]; exact Own.nil _ _ _, Ren.Mod.refl _ _⟩
 · have hH : Holds (Value.int .i64) w g 0 zs.toArray := holds_of_blockI hg (by rw [Nat.mul_one] at h4; exact h4)
   refine (Any.slices_Sort_int renSort_ok g 0 cap zs w hH (lt_of_block hg) (by omega)).mono ?_
   rintro e w' ⟨rfl, n, os, rfl⟩
   refine ⟨rfl, ?_, ?_⟩
   · exact ownsRow_sortedI (ss := zs) (ts := sortI zs) hsl (Nat.zero_le _) hg h1 h2 h3
   · exact (grown_mod (grownBy_sortedI _)).weak (fun q hq => .inl (by subst hq; rfl))
theorem shcompact_any (w : World) (v : Value) (zs : List Int) (h : Own w 3 1 v zs.length (zs.map iv)) (hl : zs.length ≤ 17592186044416) :
 Calls Tryz.prog 103 #[v] w fun e w' => ∃ v', e = .returned v' ∧ Own w' 3 1 v' (Lib.compact zs).length ((Lib.compact zs).map iv) ∧ Ren.Mod (fun q => v.ownBlock = some q) w w' ∧ v'.ownBlock = v.ownBlock := by
 rcases h.2 with ⟨rfl, h0⟩ | ⟨g, cap, cur, rfl, _, hg, h1, h2, h3, h4⟩
 · have hz : zs = [] := List.eq_nil_of_length_eq_zero h0
   subst hz
   refine (Any.slices_Compact_int_empty renCompact_ok none 0 w).mono ?_
   rintro e w' ⟨rfl, rfl⟩
   exact ⟨_, rfl, by show Own _ _ 1 _ 0 []; exact Own.nil _ _ _, Ren.Mod.refl _ _, rfl⟩
 · have hH : Holds (Value.int .i64) w g 0 zs.toArray := holds_of_blockI hg (by rw [Nat.mul_one] at h4; exact h4)
   refine (Any.slices_Compact_int renCompact_ok g 0 cap zs w hH (by omega) h1).mono ?_
   rintro e w' ⟨rfl, q, hw⟩
   have hcl : (Lib.compact zs).length ≤ zs.length := by
    unfold Lib.compact Lib.compactUpTo
    rw [List.length_map]
    exact Nat.le_trans (List.length_filter_le _ _) (by simp)
   obtain ⟨ts, hts⟩ : ∃ ts, ts = Lib.compact zs ++ List.replicate (zs.length - (Lib.compact zs).length) 0 := ⟨_, rfl⟩
   have htl : ts.length = zs.length := by rw [hts]; simp; omega
   have hw2 : w' = grow (putRow (Value.int .i64) (Sort.ahead w q) g 0 ts.toArray) #[] := by rw [hw, grow_empty, hts]
   have hO : Own w' 3 1 (.slice (some ⟨g, 0, none⟩) zs.length cap) zs.length (ts.map iv) := by rw [hw2]; exact ownsRow_sortedI (ss := zs) (ts := ts) htl (Nat.zero_le _) hg h1 h2 h3
   refine ⟨_, rfl, ?_, by rw [hw2]; exact (grown_mod (grownBy_sortedI _)).weak (fun q hq => .inl (by subst hq; rfl)), rfl⟩
   rcases hO.2 with ⟨hn, _⟩ | ⟨g', cap', cur', hv, _, hg', _, _, h7, h8⟩
   · cases hn
   · cases hv
     refine ⟨by simp, .inr ⟨g, cap, cur', rfl, Nat.zero_le _, hg', by omega, h2, h7, ?_⟩⟩
     have h9 := congrArg (List.take ((Lib.compact zs).length)) h8
     rw [List.take_take, Nat.mul_one, Nat.min_eq_left hcl] at h9
     rw [Nat.mul_one, h9, hts, List.map_append, List.take_append_of_le_length (by simp), List.take_of_length_le (by simp)]
end Go.Proofs.YtbhocahmhmafmaaGreat
