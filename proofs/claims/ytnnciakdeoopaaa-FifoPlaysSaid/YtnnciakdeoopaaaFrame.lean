/-
  The frame of every law of this claim: a call that answers true, and under which nothing that was there turns, meets the law's row. And how arguments are opened: ints, bools, lists of bytes and of ints. No condition.
-/
import Derived.Test.YtnnciakdeoopaaaRows
import Derived.Test.YtnnciakdeoopaaaLib
import Derived.ProofKit
import Derived.OpenShut
import Derived.Deep.Slices
namespace Go.Ren
open Go.ChangeShapes Go.WideShapes Go.ChangeAt Go.RowKit

theorem trodAll_stays {H : Type} {enc : TypeId × Value → H} {P : Program} (hl : laidOutB P = true) {W W' : World} (hb : Below W.heap.size W W') : ∀ (ts : List TypeId) (vs : List Value) (ds : List (DataW H)) (ps : List MemPlace),
    (∀ t ∈ ts, P.readableRec t = true ∧ t < P.types.size) → (∀ x ∈ ps, x.block < W.heap.size) → DataW.TrodAll enc P W 0 (fun _ => true) true ts vs ds ps →
    DataW.TrodAll enc P W' 0 (fun b => decide (b < W.heap.size)) true ts vs ds ps
  | [], vs, ds, ps, _, _, h => by
    obtain ⟨rfl, rfl, rfl⟩ := trodAll_nil h
    exact trodAll_mk0
  | t :: ts, vs, ds, ps, hr, hlt, h => by
    obtain ⟨v, vs', d, ds', p, q, rfl, rfl, rfl, h1, h2⟩ := trodAll_cons h
    have ht := hr t (by simp)
    exact trodAll_cons_mk (Below.trod hl ht.1 ht.2 h1 hb (fun x hx => hlt x (by simp [hx]))) (trodAll_stays hl hb ts vs' ds' q (fun t ht => hr t (by simp [ht])) (fun x hx => hlt x (by simp [hx])) h2)

theorem trodAll_len {H : Type} {enc : TypeId × Value → H} {P : Program} {W : World} {base : Nat} {spare : Nat → Bool} {held : Bool} : ∀ (ts : List TypeId) (vs : List Value) (ds : List (DataW H)) (ps : List MemPlace),
    DataW.TrodAll enc P W base spare held ts vs ds ps → ds.length = ts.length ∧ vs.length = ts.length
  | [], vs, ds, ps, h => by obtain ⟨rfl, rfl, rfl⟩ := trodAll_nil h; exact ⟨rfl, rfl⟩
  | t :: ts, vs, ds, ps, h => by
    obtain ⟨v, vs', d, ds', p, q, rfl, rfl, rfl, h1, h2⟩ := trodAll_cons h
    have := trodAll_len ts vs' ds' q h2
    simp [this]

/-- A law's step: the walk gives true and leaves what was there. -/
theorem law_step {H : Type} {enc : TypeId × Value → H} {C : Checked} {f : FuncId} {fn : Func} {s : ChangeSpec} {W : World} {args : Array Value} {ds gs : List (DataW H)} {before : List MemPlace} (boolT : TypeId)
    (hl : laidOutB C.prog = true) (hp : (fn.params.toList.all fun t => C.prog.readableRec t && decide (t < C.prog.types.size)) = true) (hb : C.prog.underlying boolT = some .bool) (hr : fn.resultTypes = #[boolT]) (hvars : s.vars = [])
    (hspec : ∀ ds : List (DataW H), ds.length = fn.params.toList.length → (s.fn H (ds ++ [])).results = [.lit (.bool true)] ∧ (s.fn H (ds ++ [])).args = ds ∧ (s.fn H (ds ++ [])).vars = [])
    (hW : DataW.Whole enc C.prog fn.params.toList s.vars false W args.toList ds gs before)
    (walk : Calls C.prog f args W fun e W' => e = .returned (.bool true) ∧ Below W.heap.size W W') :
    Calls C.prog f args W fun e W' => ∃ v, e = .returned v ∧ s.post enc C.prog fn false true false false W args v W' := by
  have hlt0 := hW.lt
  have hW' := hW
  obtain ⟨p, q, hA, hV, rfl, _, _⟩ := hW
  rw [hvars] at hV
  obtain ⟨rfl, rfl⟩ := trodVars_none hV
  have hlen := (trodAll_len _ _ _ _ hA).1
  obtain ⟨s1, s2, s3⟩ := hspec ds hlen
  refine walk.mono fun e W' ⟨he, hbl⟩ => ⟨_, he, ds, [], _, [], p, [], hW', ?_, ?_, ?_, hbl.frame _, fun h => by cases h⟩
  · rw [s1, hr]
    exact trodAll_cons_mk (shut_bool hb true) trodAll_mk0
  · rw [s2]
    refine trodAll_stays hl hbl _ _ _ _ (fun t ht => ?_) (fun x hx => hlt0 x (by simp [hx])) hA
    have := List.all_eq_true.1 hp t ht
    simpa using this
  · rw [s3, hvars]; rfl

/-! ### How arguments are opened -/
theorem i64_wf {x : Int} (h : (Lit.int .i64 x).wf = true) : I64 x := by
  have h1 : decide (IntKind.i64.min ≤ x) = true ∧ decide (x ≤ IntKind.i64.max) = true := by simpa [Lit.wf] using h
  have e1 : IntKind.i64.min = -9223372036854775808 := by decide
  have e2 : IntKind.i64.max = 9223372036854775807 := by decide
  rw [e1, e2] at h1
  exact ⟨of_decide_eq_true h1.1, of_decide_eq_true h1.2⟩
theorem u8_wf {x : Int} (h : (Lit.int .u8 x).wf = true) : 0 ≤ x ∧ x ≤ 255 := by
  have h1 : decide (IntKind.u8.min ≤ x) = true ∧ decide (x ≤ IntKind.u8.max) = true := by simpa [Lit.wf] using h
  have e1 : IntKind.u8.min = 0 := by decide
  have e2 : IntKind.u8.max = 255 := by decide
  rw [e1, e2] at h1
  exact ⟨of_decide_eq_true h1.1, of_decide_eq_true h1.2⟩
section
variable {H : Type} {enc : TypeId × Value → H} {P : Program} {W : World} {base : Nat}
theorem arg_int {T : TypeId} {v : Value} {d : DataW H} {ps : List MemPlace} (hu : P.underlying T = some (.int .i64)) (hval : Value.okWide P W .any base T v) (h : DataW.Trod enc P W 0 (fun _ => true) true T v d ps) : ∃ x : Int, v = .int .i64 x ∧ I64 x := by
  obtain ⟨x, rfl, rfl, rfl, wx⟩ := open_int hu hval h
  exact ⟨x, rfl, i64_wf wx⟩
theorem arg_ints {T E : TypeId} {v : Value} {d : DataW H} {ps : List MemPlace} (hu : P.underlying T = some (.slice E)) (he : P.underlying E = some (.int .i64)) (hc : P.cellsOf E = 1)
    (hval : Value.okWide P W .any base T v) (h : DataW.Trod enc P W 0 (fun _ => true) true T v d ps) : ∃ l : List Int, IntsAt W v l := by
  obtain ⟨a, len, cap, rfl⟩ := okWide_slice hu hval
  obtain ⟨fuel, hf⟩ := h
  rcases open_ints hu he hc hf with ⟨hcs, _⟩ | ⟨a', len', cap', zs, hcs, _, hl, hm, hz, _, hcell, hwz⟩
  · simp [Value.cells] at hcs
    obtain ⟨rfl, rfl, rfl⟩ := hcs
    exact ⟨[], ⟨⟨none, 0, rfl, Nat.le_refl _, by simp [maxLen], fun _ => ⟨rfl, rfl⟩⟩, rfl, fun j u hj => by simp at hj⟩, fun x hx => by cases hx⟩
  · simp [Value.cells] at hcs
    obtain ⟨rfl, rfl, rfl⟩ := hcs
    simp only [if_true] at hz
    have hlen : (zs.take len).length = len := by simp; omega
    refine ⟨zs.take len, ⟨⟨some a', cap, by rw [hlen], by rw [hlen]; exact hl, hm, fun h => by cases h⟩, by simp, fun j u hj => ?_⟩, fun x hx => i64_wf (hwz x (List.mem_of_mem_take hx))⟩
    rw [List.getElem?_map] at hj
    obtain ⟨x, hx, rfl⟩ := Option.map_eq_some_iff.1 hj
    rw [List.getElem?_take] at hx
    split at hx
    case isFalse => cases hx
    case isTrue hjl =>
      have := hcell j (by omega)
      rw [List.getD_eq_getElem?_getD, hx] at this
      exact this
theorem arg_bytes {T E : TypeId} {v : Value} {d : DataW H} {ps : List MemPlace} (hu : P.underlying T = some (.slice E)) (he : P.underlying E = some (.int .u8)) (hc : P.cellsOf E = 1)
    (hval : Value.okWide P W .any base T v) (h : DataW.Trod enc P W 0 (fun _ => true) true T v d ps) : ∃ l : List UInt8, BytesAt W v l := by
  obtain ⟨a, len, cap, rfl⟩ := okWide_slice hu hval
  obtain ⟨fuel, hf⟩ := h
  rcases open_ints hu he hc hf with ⟨hcs, _⟩ | ⟨a', len', cap', zs, hcs, _, hl, hm, hz, _, hcell, hwz⟩
  · simp [Value.cells] at hcs
    obtain ⟨rfl, rfl, rfl⟩ := hcs
    exact ⟨[], ⟨⟨none, 0, rfl, Nat.le_refl _, by simp [maxLen], fun _ => ⟨rfl, rfl⟩⟩, rfl, fun j u hj => by simp at hj⟩⟩
  · simp [Value.cells] at hcs
    obtain ⟨rfl, rfl, rfl⟩ := hcs
    simp only [if_true] at hz
    have hlen : (zs.take len).length = len := by simp; omega
    refine ⟨(zs.take len).map fun z => UInt8.ofNat z.toNat, ⟨⟨some a', cap, by rw [List.length_map, hlen], by rw [List.length_map, hlen]; exact hl, hm, fun h => by cases h⟩, by simp, fun j u hj => ?_⟩⟩
    rw [List.getElem?_map] at hj
    obtain ⟨y, hy, rfl⟩ := Option.map_eq_some_iff.1 hj
    rw [List.getElem?_map] at hy
    obtain ⟨x, hx, rfl⟩ := Option.map_eq_some_iff.1 hy
    rw [List.getElem?_take] at hx
    split at hx
    case isFalse => cases hx
    case isTrue hjl =>
      have h1 := hcell j (by omega)
      rw [List.getD_eq_getElem?_getD, hx] at h1
      have h2 := u8_wf (hwz x (List.mem_of_getElem? hx))
      have e : bv (UInt8.ofNat x.toNat) = .int .u8 x := by
        simp only [bv]; congr 1
        rw [UInt8.toNat_ofNat_of_lt' (by show x.toNat < 256; omega)]
        omega
      rw [e]; exact h1
end
end Go.Ren
