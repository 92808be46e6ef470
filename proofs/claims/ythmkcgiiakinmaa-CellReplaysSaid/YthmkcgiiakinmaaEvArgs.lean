/-
  How events and logs that came in are opened. No condition.
-/
import Derived.Test.YthmkcgiiakinmaaEvReads
namespace Go.Ren
open Go.ChangeShapes Go.WideShapes Go.ChangeAt Go.RowKit Go.Deep
theorem Sh.open_struct_arg {H : Type} {enc : TypeId × Value → H} {P : Program} {w : World} {base : Nat} {spare : Nat → Bool} {held : Bool} {s : Sh} {T : TypeId} {fs : Array Field} {v : Value} {d : DataW H} {ps : List MemPlace} {r : Reach} {b0 : Nat} (hu : P.underlying T = some (.struct fs)) (hf : (Sh.st s).fits P (.inl T) = true) (hval : Value.okWide P w r b0 T v)
    (h : DataW.Trod enc P w base spare held T v d ps) : ∃ cs : Array Value, v = .agg cs ∧ (Sh.st s).Has w cs.toList := by
  obtain ⟨cs, rfl, _⟩ := okWide_struct hu hval
  obtain ⟨fuel, h⟩ := h
  exact ⟨cs, rfl, (Sh.open_ (.st s)).1 _ _ _ _ hf h⟩
theorem arg_u8 {H : Type} {enc : TypeId × Value → H} {P : Program} {W : World} {base : Nat} {T : TypeId} {v : Value} {d : DataW H} {ps : List MemPlace} (hu : P.underlying T = some (.int .u8)) (hval : Value.okWide P W .any base T v) (h : DataW.Trod enc P W 0 (fun _ => true) true T v d ps) : ∃ x : UInt8, v = bv x := by
  obtain ⟨x, rfl, rfl, rfl, wx⟩ := open_int hu hval h
  have h2 := u8_wf wx
  refine ⟨UInt8.ofNat x.toNat, ?_⟩
  simp only [bv]
  rw [UInt8.toNat_ofNat_of_lt' (by show x.toNat < 256; omega)]
  congr 1
  omega
theorem flat_parts {sz n : Nat} {xs : List Value} {f : Nat → Nat → Value} (hl : xs.length = n * sz) (h : ∀ i, i < n → (xs.drop (i * sz)).take sz = (List.range sz).map (f i)) : xs = flat sz n f := by
  apply List.ext_getElem?
  intro j
  by_cases hj : j < n * sz
  · have hsz : 0 < sz := by rcases Nat.eq_zero_or_pos sz with h0 | h0; simp [h0] at hj; exact h0
    have hd : j / sz < n := Nat.div_lt_of_lt_mul (by rw [Nat.mul_comm]; exact hj)
    have hm := Nat.mod_lt j hsz
    have e : j / sz * sz + j % sz = j := by rw [Nat.mul_comm]; exact Nat.div_add_mod j sz
    have h1 := congrArg (fun z => z[j % sz]?) (h _ hd)
    simp only [List.getElem?_take, hm, if_true, List.getElem?_drop, e, List.getElem?_map, List.getElem?_range hm, Option.map_some] at h1
    rw [h1]; simp [flat, hj]
  · rw [List.getElem?_eq_none (by omega), List.getElem?_eq_none (by rw [flat_len]; omega)]
end Go.Ren
namespace Go.Proofs.Ythmkcgiiakinmaa
open Go.Ren Go.RowKit
set_option linter.unusedVariables false

def evSh : Sh := .st (.fcons 1 .i64 (.fcons 1 .i64 (.fcons 1 .bool (.fcons 1 .bool (.fcons 1 .i64 (.fcons 1 .i64 (.fcons 1 .i64 (.fcons 1 (.sl 1 .u8) (.fcons 1 (.sl 1 .u8) (.fcons 1 (.sl 1 .i64) .fnil))))))))))
theorem one_of1 {cs : List Value} {u : Value} (h : cs.take 1 = [u]) : cs = u :: cs.drop 1 := by
  have := List.take_append_drop 1 cs
  rw [h] at this; exact this.symm
theorem ev_dec {w : World} {cs : List Value} (h : evSh.Has w cs) : ∃ e v, cs = (evArr e v).toList ∧ EvAt w e v := by
  obtain ⟨⟨a1, h1, i1⟩, ⟨a2, h2, i2⟩, ⟨a3, h3⟩, ⟨a4, h4⟩, ⟨a5, h5, i5⟩, ⟨a6, h6, i6⟩, ⟨a7, h7, i7⟩, h8, h9, h10, h11⟩ := h
  obtain ⟨v8, b8, h8, k8⟩ := Sh.bytes h8
  obtain ⟨v9, b9, h9, k9⟩ := Sh.bytes h9
  obtain ⟨v10, b10, h10, k10⟩ := Sh.ints h10
  refine ⟨⟨a1, a2, a3, a4, a5, a6, a7, b8, b9, b10⟩, ⟨v8, v9, v10⟩, ?_, k8, k9, k10, ⟨i1, i2, i5, i6, i7, k10.ok⟩⟩
  rw [one_of1 h1, one_of1 h2, one_of1 h3, one_of1 h4, one_of1 h5, one_of1 h6, one_of1 h7, one_of1 h8, one_of1 h9, one_of1 h10, h11]
set_option maxRecDepth 100000 in
theorem ev_arg {H : Type} {enc : TypeId × Value → H} {w : World} {base : Nat} {spare : Nat → Bool} {held : Bool} {x : Value} {d : DataW H} {ps : List MemPlace} {r : Reach} {b0 : Nat} (hval : Value.okWide Try.prog w r b0 45 x)
    (h : DataW.Trod enc Try.prog w base spare held 45 x d ps) : ∃ e v, x = evV e v ∧ EvAt w e v := by
  obtain ⟨cs, rfl, hs⟩ := Sh.open_struct_arg (s := _) Try.underlying45 (show evSh.fits Try.prog (.inl 45) = true by kernel_rfl) hval h
  obtain ⟨e, v, hc, he⟩ := ev_dec hs
  refine ⟨e, v, ?_, he⟩
  congr 1
  exact Array.toList_inj.1 hc
theorem evrow_dec {w : World} {v : Value} (h : (Sh.sl 10 evSh).Has w [v]) : ∃ (L : List Ev) (V : Nat → Vs), Sl w v 10 L.length (flat 10 L.length (fun i j => evcell (evn L i) (V i) j)) ∧ ∀ i, i < L.length → EvAt w (evn L i) (V i) := by
  obtain ⟨l, xs, hs, hi⟩ := Sh.dec (R := fun (p : Ev × Vs) cs => cs = (evArr p.1 p.2).toList ∧ EvAt w p.1 p.2) h (fun cs h => by obtain ⟨e, v, h1, h2⟩ := ev_dec h; exact ⟨(e, v), h1, h2⟩)
  refine ⟨l.map Prod.fst, fun i => (l.getD i (ev0, ⟨undef, undef, undef⟩)).2, ?_, fun i hi' => ?_⟩
  · rw [List.length_map]
    have e : xs = flat 10 l.length (fun i j => evcell (evn (l.map Prod.fst) i) ((l.getD i (ev0, ⟨undef, undef, undef⟩)).2) j) := by
      refine flat_parts (by simpa using hs.len) fun i hi' => ?_
      rw [(hi i hi').1]
      have e1 : evn (l.map Prod.fst) i = l[i].1 := by simp [evn, hi']
      have e2 : (l.getD i (ev0, ⟨undef, undef, undef⟩)) = l[i] := by simp [hi']
      rw [e1, e2]
      rfl
    rw [← e]; exact hs
  · rw [List.length_map] at hi'
    have e1 : evn (l.map Prod.fst) i = l[i].1 := by simp [evn, hi']
    have e2 : (l.getD i (ev0, ⟨undef, undef, undef⟩)) = l[i] := by simp [hi']
    rw [e1]; simp only [e2]; exact (hi i hi').2
def prSh : Sh := .arr 2 1 .i64
theorem pr_dec {w : World} {cs : List Value} (h : prSh.Has w cs) : ∃ p : Int × Int, cs = [.int .i64 p.1, .int .i64 p.2] ∧ I64 p.1 ∧ I64 p.2 := by
  obtain ⟨hl, hi⟩ := h
  obtain ⟨a, ha, ia⟩ := hi 0 (by decide)
  obtain ⟨b, hb, ib⟩ := hi 1 (by decide)
  refine ⟨(a, b), ?_, ia, ib⟩
  match cs, hl with
  | [x, y], _ => simp at ha hb; rw [ha, hb]
theorem prrow_dec {w : World} {v : Value} (h : (Sh.sl 2 prSh).Has w [v]) : ∃ l : List (Int × Int), Sl w v 2 l.length (flat 2 l.length (fun i j => prcell (prn l i) j)) ∧ ∀ i, i < l.length → I64 (prn l i).1 ∧ I64 (prn l i).2 := by
  obtain ⟨l, xs, hs, hi⟩ := Sh.dec (R := fun (p : Int × Int) cs => cs = [.int .i64 p.1, .int .i64 p.2] ∧ I64 p.1 ∧ I64 p.2) h (fun cs h => pr_dec h)
  refine ⟨l, ?_, fun i hi' => ?_⟩
  · have e : xs = flat 2 l.length (fun i j => prcell (prn l i) j) := by
      refine flat_parts (by simpa using hs.len) fun i hi' => ?_
      rw [(hi i hi').1, prn_eq hi']
      rfl
    rw [← e]; exact hs
  · rw [prn_eq hi']; exact (hi i hi').2
def lgSh : Sh := .st (.fcons 1 (.sl 10 evSh) (.fcons 1 (.sl 2 prSh) .fnil))
set_option maxRecDepth 100000 in
theorem log_arg {H : Type} {enc : TypeId × Value → H} {w : World} {base : Nat} {spare : Nat → Bool} {held : Bool} {x : Value} {d : DataW H} {ps : List MemPlace} {r : Reach} {b0 : Nat} (hval : Value.okWide Try.prog w r b0 25 x)
    (h : DataW.Trod enc Try.prog w base spare held 25 x d ps) : ∃ ve vp V L, x = .agg #[ve, vp] ∧ LogIn w ve vp V L := by
  obtain ⟨cs, rfl, hs⟩ := Sh.open_struct_arg (s := .fcons 1 (.sl 10 evSh) (.fcons 1 (.sl 2 prSh) .fnil)) Try.underlying25 (by kernel_rfl) hval h
  obtain ⟨h1, h2, h3⟩ := hs
  obtain ⟨ve, n1, xs1, e1, g1⟩ := h1
  obtain ⟨vp, n2, xs2, e2, g2⟩ := h2
  obtain ⟨L, V, hr, he⟩ := evrow_dec (w := w) (v := ve) ⟨ve, n1, xs1, rfl, g1⟩
  obtain ⟨l, hp, hq⟩ := prrow_dec (w := w) (v := vp) ⟨vp, n2, xs2, rfl, g2⟩
  refine ⟨ve, vp, V, ⟨L, l⟩, ?_, ⟨hr, he, hp, hq⟩⟩
  congr 1
  apply Array.toList_inj.1
  rw [one_of1 e1, one_of1 e2, h3]
end Go.Proofs.Ythmkcgiiakinmaa
