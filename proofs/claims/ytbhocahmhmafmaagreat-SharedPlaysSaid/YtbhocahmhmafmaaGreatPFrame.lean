/-
  The frame of every law of this claim: a call that answers true, and under which nothing that was there turns, meets the law's row. And how arguments are opened: ints, bools, lists of bytes and of ints. No condition. How an argument of any shape (slices, structs, arrays, nested) is opened to its cells, once for all. No condition. How an argument of any shape is opened to its cells, with the reach of each slice in it. No condition.
-/
import Derived.Test.YtbhocahmhmafmaaGreatRows
import Derived.Test.YtbhocahmhmafmaaGreatPLib
import Derived.ProofKit
import Derived.OpenShut
import Derived.Deep.Slices
import Derived.SizedLaws
namespace Go.Ren
open Go.ChangeShapes Go.WideShapes Go.ChangeAt Go.RowKit
theorem trodAll_stays {H : Type} {enc : TypeId × Value → H} {P : Program} (hl : laidOutB P = true) {W W' : World} (hb : Below W.heap.size W W') : ∀ (ts : List TypeId) (vs : List Value) (ds : List (DataW H)) (ps : List MemPlace),
 (∀ t ∈ ts, P.readableRec t = true ∧ t < P.types.size) → (∀ x ∈ ps, x.block < W.heap.size) → DataW.TrodAll enc P W 0 (fun _ => true) true ts vs ds ps →
 DataW.TrodAll enc P W' 0 (fun b => decide (b < W.heap.size)) true ts vs ds ps
 | [], vs, ds, ps, _, _, h => by
  obtain ⟨rfl, rfl, rfl⟩ := trodAll_nil h
  exact trodAll_mk0
 | t :: ts, vs, ds, ps, hr, hlt, h => by
  obtain ⟨v, vs', d, ds', p, q, rfl, rfl, rfl, h1, h2⟩ := trodAll_cons h
  have ht := hr t (by simp)
  exact trodAll_cons_mk (Below.trod hl ht.1 ht.2 h1 hb (fun x hx => hlt x (by simp [hx]))) (trodAll_stays hl hb ts vs' ds' q (fun t ht => hr t (by simp [ht])) (fun x hx => hlt x (by simp [hx])) h2)
theorem trodAll_len {H : Type} {enc : TypeId × Value → H} {P : Program} {W : World} {base : Nat} {spare : Nat → Bool} {held : Bool} : ∀ (ts : List TypeId) (vs : List Value) (ds : List (DataW H)) (ps : List MemPlace),
 DataW.TrodAll enc P W base spare held ts vs ds ps → ds.length = ts.length ∧ vs.length = ts.length
 | [], vs, ds, ps, h => by obtain ⟨rfl, rfl, rfl⟩ := trodAll_nil h; exact ⟨rfl, rfl⟩
 | t :: ts, vs, ds, ps, h => by
  obtain ⟨v, vs', d, ds', p, q, rfl, rfl, rfl, h1, h2⟩ := trodAll_cons h
  have := trodAll_len ts vs' ds' q h2
  simp [this]
theorem law_step {H : Type} {enc : TypeId × Value → H} {C : Checked} {f : FuncId} {fn : Func} {s : ChangeSpec} {W : World} {args : Array Value} {ds gs : List (DataW H)} {before : List MemPlace} (boolT : TypeId)
 (hl : laidOutB C.prog = true) (hp : (fn.params.toList.all fun t => C.prog.readableRec t && decide (t < C.prog.types.size)) = true) (hb : C.prog.underlying boolT = some .bool) (hr : fn.resultTypes = #[boolT]) (hvars : s.vars = [])
 (hspec : ∀ ds : List (DataW H), ds.length = fn.params.toList.length → (s.fn H (ds ++ [])).results = [.lit (.bool true)] ∧ (s.fn H (ds ++ [])).args = ds ∧ (s.fn H (ds ++ [])).vars = [])
 (hW : DataW.Whole enc C.prog fn.params.toList s.vars false W args.toList ds gs before)
 (walk : Calls C.prog f args W fun e W' => e = .returned (.bool true) ∧ Below W.heap.size W W') :
 Calls C.prog f args W fun e W' => ∃ v, e = .returned v ∧ s.post enc C.prog fn false true false false W args v W' := by
 have hlt0 := hW.lt
 have hW' := hW
 obtain ⟨p, q, hA, hV, rfl, _, _⟩ := hW
 rw [hvars] at hV
 obtain ⟨rfl, rfl⟩ := trodVars_none hV
 have hlen := (trodAll_len _ _ _ _ hA).1
 obtain ⟨s1, s2, s3⟩ := hspec ds hlen
 refine walk.mono fun e W' ⟨he, hbl⟩ => ⟨_, he, ds, [], _, [], p, [], hW', ?_, ?_, ?_, hbl.frame _, fun h => by cases h⟩
 · rw [s1, hr]
   exact trodAll_cons_mk (shut_bool hb true) trodAll_mk0
 · rw [s2]
   refine trodAll_stays hl hbl _ _ _ _ (fun t ht => ?_) (fun x hx => hlt0 x (by simp [hx])) hA
   have := List.all_eq_true.1 hp t ht
   simpa using this
 · rw [s3, hvars]; rfl
theorem i64_wf {x : Int} (h : (Lit.int .i64 x).wf = true) : I64 x := by
 have h1 : decide (IntKind.i64.min ≤ x) = true ∧ decide (x ≤ IntKind.i64.max) = true := by simpa [Lit.wf] using h
 have e1 : IntKind.i64.min = -9223372036854775808 := by decide
 have e2 : IntKind.i64.max = 9223372036854775807 := by decide
 rw [e1, e2] at h1
 exact ⟨of_decide_eq_true h1.1, of_decide_eq_true h1.2⟩
theorem u8_wf {x : Int} (h : (Lit.int .u8 x).wf = true) : 0 ≤ x ∧ x ≤ 255 := by
 have h1 : decide (IntKind.u8.min ≤ x) = true ∧ decide (x ≤ IntKind.u8.max) = true := by simpa [Lit.wf] using h
 have e1 : IntKind.u8.min = 0 := by decide
 have e2 : IntKind.u8.max = 255 := by decide
 rw [e1, e2] at h1
 exact ⟨of_decide_eq_true h1.1, of_decide_eq_true h1.2⟩
section
variable {H : Type} {enc : TypeId × Value → H} {P : Program} {W : World} {base : Nat}
theorem arg_int {T : TypeId} {v : Value} {d : DataW H} {ps : List MemPlace} (hu : P.underlying T = some (.int .i64)) (hval : Value.okWide P W .any base T v) (h : DataW.Trod enc P W 0 (fun _ => true) true T v d ps) : ∃ x : Int, v = .int .i64 x ∧ I64 x := by
 obtain ⟨x, rfl, rfl, rfl, wx⟩ := open_int hu hval h
 exact ⟨x, rfl, i64_wf wx⟩
end
end Go.Ren
namespace Go.Ren
open Go.ChangeShapes Go.WideShapes Go.ChangeAt Go.RowKit Go.Deep
section
variable {H : Type} {enc : TypeId × Value → H} {P : Program} {w : World} {base : Nat} {spare : Nat → Bool} {held : Bool}
theorem drop_take_range {α : Type} (f : Nat → α) (n sz i : Nat) (hi : i < n) : (((List.range (n * sz)).map f).drop (i * sz)).take sz = (List.range sz).map fun j => f (i * sz + j) := by
 have h2 : (i + 1) * sz ≤ n * sz := Nat.mul_le_mul_right _ hi
 have h3 : (i + 1) * sz = i * sz + sz := by rw [Nat.add_mul, Nat.one_mul]
 apply List.ext_getElem?
 intro j
 by_cases hj : j < sz
 · rw [List.getElem?_take, if_pos hj, List.getElem?_drop]
   simp [show i * sz + j < n * sz by omega, hj]
 · rw [List.getElem?_take, if_neg hj]
   simp [hj]
end
end Go.Ren
namespace Go.Ren
open Go.ChangeShapes Go.WideShapes Go.ChangeAt Go.RowKit Go.Deep
inductive Sz where
 | i64 | u64 | u8 | bool
 | sl (sz by_ : Nat) (s : Sz)
 | st (s : Sz)
 | fcons (k : Nat) (s r : Sz)
 | fnil
def Sz.Has (w : World) : Sz → List Value → Prop
 | .i64, cs => ∃ x, cs = [.int .i64 x] ∧ I64 x
 | .u64, cs => ∃ x : Nat, cs = [.int .u64 (x : Int)] ∧ x < 18446744073709551616
 | .u8, cs => ∃ x : UInt8, cs = [bv x]
 | .bool, cs => ∃ b, cs = [.bool b]
 | .sl sz by_ s, cs => ∃ v n xs, cs = [v] ∧ Sl w v sz n xs ∧ n * by_ ≤ reachBytes ∧ ∀ i, i < n → s.Has w ((xs.drop (i * sz)).take sz)
 | .st s, cs => s.Has w cs
 | .fcons k s r, cs => s.Has w (cs.take k) ∧ r.Has w (cs.drop k)
 | .fnil, cs => cs = []
def Sz.fits (P : Program) : Sz → TypeId ⊕ (List Field × Nat × Nat) → Bool
 | .i64, .inl t => match P.underlying t with | some (.int .i64) => true | _ => false
 | .u64, .inl t => match P.underlying t with | some (.int .u64) => true | _ => false
 | .u8, .inl t => match P.underlying t with | some (.int .u8) => true | _ => false
 | .bool, .inl t => match P.underlying t with | some .bool => true | _ => false
 | .sl sz by_ s, .inl t => match P.underlying t with | some (.slice e) => P.cellsOf e == sz && P.bytesOf e == by_ && 0 < sz && s.fits P (.inl e) | _ => false
 | .st s, .inl t => match P.underlying t with | some (.struct fs) => s.fits P (.inr (fs.toList, 0, P.cellsOf t)) | _ => false
 | .fnil, .inr ([], off, all) => off == all
 | .fcons k s r, .inr (f :: fs, off, all) => f.offset == off && P.cellsOf f.type == k && s.fits P (.inl f.type) && r.fits P (.inr (fs, off + k, all))
 | _, _ => false
section
variable {H : Type} {enc : TypeId × Value → H} {P : Program} {w : World} {base : Nat} {spare : Nat → Bool} {held : Bool}
theorem weightsAll_mem {e : TypeId} {l : List (DataW H)} {d : DataW H} (hd : d ∈ l) {n : Nat} (hn : n ∈ d.weights P e) : n ∈ DataW.weightsAll P e l := by
 induction l with
 | nil => cases hd
 | cons x l ih =>
  simp only [DataW.weightsAll, List.mem_append]
  rcases List.mem_cons.1 hd with rfl | hd
  · exact .inl hn
  · exact .inr (ih hd)
theorem u64_wf {y : Int} (h : (Lit.int .u64 y).wf = true) : ∃ x : Nat, y = (x : Int) ∧ x < 18446744073709551616 := by
 have h1 : decide (IntKind.u64.min ≤ y) = true ∧ decide (y ≤ IntKind.u64.max) = true := by simpa [Lit.wf] using h
 have e1 : IntKind.u64.min = 0 := by decide
 have e2 : IntKind.u64.max = 18446744073709551615 := by decide
 rw [e1, e2] at h1
 have h3 := of_decide_eq_true h1.1
 have h4 := of_decide_eq_true h1.2
 exact ⟨y.toNat, by omega, by omega⟩
theorem Sz.open_ : ∀ (sh : Sz),
 (∀ (t : TypeId) (cs : List Value) (fuel : Nat) (x : DataW H × List MemPlace), sh.fits P (.inl t) = true → DataW.trod enc P w base spare held fuel t cs = some x → (∀ n ∈ x.1.weights P t, n ≤ reachBytes) → sh.Has w cs) ∧
 (∀ (fs : List Field) (off all : Nat) (cs : List Value), sh.fits P (.inr (fs, off, all)) = true → cs.length = all → (∀ f ∈ fs, ∃ n y, DataW.trod enc P w base spare held n f.type ((cs.drop f.offset).take (P.cellsOf f.type)) = some y ∧ ∀ m ∈ y.1.weights P f.type, m ≤ reachBytes) → sh.Has w (cs.drop off)) := by
 intro sh
 induction sh with
 | i64 =>
  refine ⟨fun t cs fuel x hf h _ => ?_, fun fs off all cs hf => by simp [Sz.fits] at hf⟩
  simp only [Sz.fits] at hf
  split at hf
  case h_2 => cases hf
  case h_1 hu =>
   obtain ⟨y, rfl, _, hw⟩ := DataW.trod_int hu h
   exact ⟨y, rfl, i64_wf hw⟩
 | u64 =>
  refine ⟨fun t cs fuel x hf h _ => ?_, fun fs off all cs hf => by simp [Sz.fits] at hf⟩
  simp only [Sz.fits] at hf
  split at hf
  case h_2 => cases hf
  case h_1 hu =>
   obtain ⟨y, rfl, _, hw⟩ := DataW.trod_int hu h
   obtain ⟨z, rfl, hz⟩ := u64_wf hw
   exact ⟨z, rfl, hz⟩
 | u8 =>
  refine ⟨fun t cs fuel x hf h _ => ?_, fun fs off all cs hf => by simp [Sz.fits] at hf⟩
  simp only [Sz.fits] at hf
  split at hf
  case h_2 => cases hf
  case h_1 hu =>
   obtain ⟨y, rfl, _, hw⟩ := DataW.trod_int hu h
   have h2 := u8_wf hw
   refine ⟨UInt8.ofNat y.toNat, ?_⟩
   simp only [bv]
   rw [UInt8.toNat_ofNat_of_lt' (by show y.toNat < 256; omega)]
   congr 2
   omega
 | bool =>
  refine ⟨fun t cs fuel x hf h _ => ?_, fun fs off all cs hf => by simp [Sz.fits] at hf⟩
  simp only [Sz.fits] at hf
  split at hf
  case h_2 => cases hf
  case h_1 hu =>
   obtain ⟨y, rfl, _⟩ := DataW.trod_bool hu h
   exact ⟨y, rfl⟩
 | sl sz by_ s ih =>
  refine ⟨fun t cs fuel x hf h hwt => ?_, fun fs off all cs hf => by simp [Sz.fits] at hf⟩
  simp only [Sz.fits] at hf
  split at hf
  case h_2 => cases hf
  case h_1 e hu =>
   simp only [Bool.and_eq_true, beq_iff_eq, decide_eq_true_eq] at hf
   obtain ⟨⟨⟨hc, hb⟩, hz⟩, hs⟩ := hf
   rcases open_slice hu h with ⟨rfl, _⟩ | ⟨a, len, cap, m, n, D, Pl, rfl, _, hl, hm, hmm, hx, hi⟩
   · exact ⟨_, 0, [], rfl, ⟨⟨none, 0, rfl, Nat.le_refl _, by simp [maxLen], fun _ => ⟨rfl, rfl⟩⟩, by simp, fun j u hj => by simp at hj⟩, by simp, fun i hi => by omega⟩
   · have hlm : len ≤ m := by rw [hmm]; split <;> omega
     rw [hc] at hi
     rw [hx] at hwt
     have hwe : ∀ k, k ∈ DataW.weights P t (.slice ((List.range len).map D) ((List.range (m - len)).map fun j => D (len + j))) → k ≤ reachBytes := hwt
     have hlen : len * by_ ≤ reachBytes := by
      have h1 := hwe (((List.range len).map D).length * P.bytesOf e + ((List.range (m - len)).map fun j => D (len + j)).length * P.bytesOf e) (by simp [DataW.weights, hu, Nat.add_mul])
      simp only [List.length_map, List.length_range, hb] at h1
      omega
     have key : ∀ i, i < len → ∃ cs', cs'.length = sz ∧ (∀ j, j < sz → w.cell? (a.add (i * sz + j)) = cs'[j]?) ∧ s.Has w cs' := by
      intro i him
      obtain ⟨cs', h1, h2⟩ := hi i (by omega)
      obtain ⟨_, h3, h4⟩ := World.cells?_some h1
      exact ⟨cs', h3, fun j hj => by rw [← h4 j hj, Go.Deep.add_add], ih.1 e cs' n _ hs h2 (fun k hk => hwe k (by
       simp only [DataW.weights, hu, List.mem_cons, List.mem_append]
       exact .inr (.inl (weightsAll_mem (List.mem_map.2 ⟨i, by simpa using him, rfl⟩) hk))))⟩
     have hcl : ∀ i, i < len → ∀ j, j < sz → ∃ u, w.cell? (a.add (i * sz + j)) = some u := by
      intro i him j hj
      obtain ⟨cs', h3, h4, _⟩ := key i him
      exact ⟨cs'[j]'(by omega), by rw [h4 j hj]; exact List.getElem?_eq_getElem _⟩
     refine ⟨_, len, (List.range (len * sz)).map fun j => (w.cell? (a.add j)).getD undef, rfl, ⟨⟨some a, cap, rfl, hl, hm, fun h => by cases h⟩, by simp, fun j u hj => ?_⟩, hlen, fun i him => ?_⟩
     · rw [List.getElem?_map] at hj
       obtain ⟨k, hk, rfl⟩ := Option.map_eq_some_iff.1 hj
       have hjl : j < len * sz := by
        rcases Nat.lt_or_ge j (len * sz) with h | h
        · exact h
        · rw [List.getElem?_eq_none (by simpa using h)] at hk; cases hk
       rw [List.getElem?_range hjl] at hk
       obtain rfl := Option.some.inj hk
       have hdiv : j / sz < len := Nat.div_lt_of_lt_mul (by rw [Nat.mul_comm]; exact hjl)
       obtain ⟨u, hu'⟩ := hcl (j / sz) hdiv (j % sz) (Nat.mod_lt _ hz)
       have e1 : j / sz * sz + j % sz = j := by rw [Nat.mul_comm]; exact Nat.div_add_mod j sz
       rw [e1] at hu'
       show w.cell? (a.add j) = _
       rw [hu']; rfl
     · rw [drop_take_range _ _ _ _ him]
       obtain ⟨cs', h3, h4, h5⟩ := key i him
       have e : (List.range sz).map (fun j => (w.cell? (a.add (i * sz + j))).getD undef) = cs' := by
        apply List.ext_getElem?
        intro j
        by_cases hj : j < sz
        · rw [List.getElem?_map, List.getElem?_range hj, Option.map_some, h4 j hj, List.getElem?_eq_getElem (by omega)]; rfl
        · rw [List.getElem?_eq_none (by simpa using hj), List.getElem?_eq_none (by omega)]
       rw [e]; exact h5
 | st s ih =>
  refine ⟨fun t cs fuel x hf h hwt => ?_, fun fs off all cs hf => by simp [Sz.fits] at hf⟩
  simp only [Sz.fits] at hf
  split at hf
  case h_2 => cases hf
  case h_1 fs hu =>
   obtain ⟨xs, k, _, hx, hl, hxl, hi⟩ := DataW.trod_struct hu h
   have := ih.2 fs.toList 0 (P.cellsOf t) cs hf hl (fun f hm => by
    obtain ⟨i, hi'⟩ := List.getElem?_of_mem hm
    have h1 := hi i f (by simpa using hi')
    have hlt : i < fs.size := by
     rcases Nat.lt_or_ge i fs.size with h | h
     · exact h
     · rw [List.getElem?_eq_none (by simpa using h)] at hi'; cases hi'
    rw [List.getElem?_eq_getElem (by omega)] at h1
    refine ⟨_, _, h1, fun m hm2 => hwt m ?_⟩
    rw [hx]
    simp only [DataW.weights, hu]
    exact DataW.weights_mem_each (j := i) (t := f.type) (d := (xs[i]'(by omega)).1) (by rw [List.getElem?_map, hi']; rfl) (by rw [List.getElem?_map, List.getElem?_eq_getElem (by omega)]; rfl) m hm2)
   exact (by simpa using this : s.Has w cs)
 | fcons k s r ihs ihr =>
  refine ⟨fun t cs fuel x hf h => by simp [Sz.fits] at hf, fun fs off all cs hf hl h => ?_⟩
  cases fs with
  | nil => simp [Sz.fits] at hf
  | cons f fs =>
   simp only [Sz.fits, Bool.and_eq_true, beq_iff_eq] at hf
   obtain ⟨⟨⟨h1, h2⟩, h3⟩, h4⟩ := hf
   obtain ⟨n, y, hy, hyw⟩ := h f (by simp)
   rw [h1, h2] at hy
   refine ⟨ihs.1 _ _ _ _ h3 hy hyw, ?_⟩
   rw [List.drop_drop]
   exact ihr.2 fs (off + k) all cs h4 hl (fun f' hm => h f' (by simp [hm]))
 | fnil =>
  refine ⟨fun t cs fuel x hf h => by simp [Sz.fits] at hf, fun fs off all cs hf hl h => ?_⟩
  cases fs with
  | cons f fs => simp [Sz.fits] at hf
  | nil =>
   simp only [Sz.fits, beq_iff_eq] at hf
   exact List.drop_eq_nil_of_le (by omega)
theorem Sz.open_slice_arg {sz by_ : Nat} {s : Sz} {T E : TypeId} {v : Value} {d : DataW H} {ps : List MemPlace} {r : Reach} {b0 : Nat} (hu : P.underlying T = some (.slice E)) (hf : (Sz.sl sz by_ s).fits P (.inl T) = true) (hval : Value.okWide P w r b0 T v)
 (h : DataW.Trod enc P w base spare held T v d ps) (hz : ∀ n ∈ d.weights P T, n ≤ reachBytes) : (Sz.sl sz by_ s).Has w [v] := by
 obtain ⟨a, len, cap, rfl⟩ := okWide_slice hu hval
 obtain ⟨fuel, h⟩ := h
 exact ((Sz.open_ (.sl sz by_ s)).1 _ _ _ _ hf h hz)
end
theorem Sz.dec {w : World} {sz by_ : Nat} {s : Sz} {v : Value} {α : Type} {R : α → List Value → Prop} (h : (Sz.sl sz by_ s).Has w [v]) (hd : ∀ cs, s.Has w cs → ∃ a, R a cs) :
 ∃ (l : List α) (xs : List Value), Sl w v sz l.length xs ∧ l.length * by_ ≤ reachBytes ∧ ∀ i (hi : i < l.length), R l[i] ((xs.drop (i * sz)).take sz) := by
 obtain ⟨v', n, xs, hv, hs, hr, hi⟩ := h
 obtain rfl := List.singleton_inj.1 hv
 have hc : ∀ i : Fin n, ∃ a, R a ((xs.drop (i * sz)).take sz) := fun i => hd _ (hi i.1 i.2)
 refine ⟨List.ofFn fun i => Classical.choose (hc i), xs, by simpa using hs, by simpa using hr, fun i hi' => ?_⟩
 have hin : i < n := by simpa using hi'
 rw [List.getElem_ofFn]
 exact Classical.choose_spec (hc ⟨i, hin⟩)
theorem Sz.ints {w : World} {cs : List Value} (h : (Sz.sl 1 8 .i64).Has w cs) : ∃ v l, cs = [v] ∧ IntsAt w v l ∧ l.length * 8 ≤ reachBytes := by
 obtain ⟨v, n, xs, rfl, h1, hr, h2⟩ := h
 obtain ⟨l, xs', hs, hr', hi⟩ := Sz.dec (R := fun (a : Int) cs => cs = [iv a] ∧ I64 a) (w := w) (s := .i64) (sz := 1) (by_ := 8) (v := v) ⟨v, n, xs, rfl, h1, hr, h2⟩ (fun cs ⟨x, h, hx⟩ => ⟨x, h, hx⟩)
 refine ⟨v, l, rfl, ⟨?_, fun x hx => ?_⟩, hr'⟩
 · have e : xs' = l.map iv := by
    apply List.ext_getElem?
    intro j
    have hlen := hs.len
    by_cases hj : j < l.length
    · have := congrArg (fun z => z[0]?) (hi j hj).1
      simp at this
      rw [this]; simp [hj]
    · rw [List.getElem?_eq_none (by omega), List.getElem?_eq_none (by simpa using hj)]
   rw [← e]; exact hs
 · obtain ⟨i, hi', rfl⟩ := List.getElem_of_mem hx
   exact (hi i hi').2
end Go.Ren
