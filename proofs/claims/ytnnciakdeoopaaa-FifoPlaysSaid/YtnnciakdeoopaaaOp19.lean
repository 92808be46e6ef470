/-
  The operations of renlaw19.FifoPlays in memory, and renlaw19.few. No condition.
-/
import Derived.Test.YtnnciakdeoopaaaEnts
import Derived.Test.YtnnciakdeoopaaaPlanT
import Derived.BigRegion
import Derived.Deep.DeepCutAuto
namespace Go.Proofs.Ytnnciakdeoopaaa
open Go.Ren Go.RowKit
set_option linter.unusedVariables false
structure Op19 where
  kind : Int
  blk : Int
  at_ : Int
  e : Ent
  b : List UInt8
  y : List Int
/-- An operation's three slices. -/
structure Os where
  e : Value
  b : Value
  y : Value
def o19 (o : Op19) (v : Os) : List Value := [.int .i64 o.kind, .int .i64 o.blk, .int .i64 o.at_, .int .i64 o.e.blk, .int .i64 o.e.at_, v.e, .int .i64 o.e.by_, .bool o.e.tears, v.b, v.y]
structure OpIn (w : World) (o : Op19) (v : Os) : Prop where
  e : BytesAt w v.e o.e.b
  b : BytesAt w v.b o.b
  y : IntsAt w v.y o.y
  i0 : I64 o.kind
  i1 : I64 o.blk
  i2 : I64 o.at_
  i3 : I64 o.e.blk
  i4 : I64 o.e.at_
  i5 : I64 o.e.by_
theorem OpIn.ext {w w' : World} {o : Op19} {v : Os} (h : OpIn w o v) (x : Ext w w') : OpIn w' o v := ⟨h.e.ext x, h.b.ext x, h.y.ext x, h.i0, h.i1, h.i2, h.i3, h.i4, h.i5⟩
def o19Sh : Sh := .st (.fcons 1 .i64 (.fcons 1 .i64 (.fcons 1 .i64 (.fcons 5 entSh (.fcons 1 (.sl 1 .u8) (.fcons 1 (.sl 1 .i64) .fnil))))))
def Ops19 (w : World) (v : Value) (l : List Op19) : Prop := ∃ xs, Sl w v 10 l.length xs ∧ ∀ i (hi : i < l.length), ∃ u, (xs.drop (i * 10)).take 10 = o19 l[i] u ∧ OpIn w l[i] u
theorem five_of {cs : List Value} {a b c d e : Value} (h : cs.take 5 = [a, b, c, d, e]) : cs = a :: b :: c :: d :: e :: cs.drop 5 := by
  have := List.take_append_drop 5 cs
  rw [h] at this; exact this.symm
theorem o19_dec {w : World} {cs : List Value} (h : o19Sh.Has w cs) : ∃ o : Op19, ∃ u, cs = o19 o u ∧ OpIn w o u := by
  obtain ⟨⟨k, h1, i1⟩, ⟨bl, h2, i2⟩, ⟨a, h3, i3⟩, h4, h5, h6, h7⟩ := h
  obtain ⟨e, ve, h4, he, j1, j2, j3⟩ := ent_dec h4
  obtain ⟨vb, b, h5, hb⟩ := Sh.bytes h5
  obtain ⟨vy, y, h6, hy⟩ := Sh.ints h6
  refine ⟨⟨k, bl, a, e, b, y⟩, ⟨ve, vb, vy⟩, ?_, ⟨he, hb, hy, i1, i2, i3, j1, j2, j3⟩⟩
  rw [one_of' h1, one_of' h2, one_of' h3, five_of h4, one_of' h5, one_of' h6, h7]; rfl
set_option maxRecDepth 100000 in
theorem ops19_arg {H : Type} {enc : TypeId × Value → H} {w : World} {base : Nat} {spare : Nat → Bool} {held : Bool} {v : Value} {d : DataW H} {ps : List MemPlace} {r : Reach} {b0 : Nat} (hval : Value.okWide Try.prog w r b0 72 v)
    (h : DataW.Trod enc Try.prog w base spare held 72 v d ps) : ∃ l, Ops19 w v l := by
  have hs := Sh.open_slice_arg (sz := 10) (s := o19Sh) Try.underlying72 (by kernel_rfl) hval h
  obtain ⟨l, xs, h1, h2⟩ := Sh.dec (R := fun (o : Op19) cs => ∃ u, cs = o19 o u ∧ OpIn w o u) hs (fun cs h => o19_dec h)
  exact ⟨l, xs, h1, h2⟩
theorem IO19 : EInfo Try.prog 72 79 10 128 (.agg #[.int .i64 0, .int .i64 0, .int .i64 0, .int .i64 0, .int .i64 0, .slice none 0 0, .int .i64 0, .bool false, .slice none 0 0, .slice none 0 0]) := ⟨Try.underlying72, by kernel_rfl, rfl, by decide⟩
theorem Ops19.ext {w w' : World} {v : Value} {l : List Op19} (h : Ops19 w v l) (x : Ext w w') : Ops19 w' v l := by
  obtain ⟨xs, hs, hr⟩ := h
  exact ⟨xs, hs.ext (by decide) x, fun i hi => by obtain ⟨u, h1, h2⟩ := hr i hi; exact ⟨u, h1, h2.ext x⟩⟩
theorem Ops19.len {w : World} {v : Value} {l : List Op19} (h : Ops19 w v l) : ∃ xs, Sl w v 10 l.length xs := by obtain ⟨xs, hs, _⟩ := h; exact ⟨xs, hs⟩
/-- The cells of operation i. -/
theorem Ops19.cells {w : World} {v : Value} {l : List Op19} (h : Ops19 w v l) {i : Nat} (hi : i < l.length) : ∃ u, OpIn w l[i] u ∧ w.cell? (at_ v (i * 10)) = some (.int .i64 l[i].kind) ∧ ∀ j c, 0 < j → (o19 l[i] u)[j]? = some c → w.cell? ⟨(at_ v (i * 10)).block, (at_ v (i * 10)).off + j, none⟩ = some c := by
  obtain ⟨xs, hs, hr⟩ := h
  obtain ⟨u, hc, hI⟩ := hr i hi
  have g : ∀ j c, (o19 l[i] u)[j]? = some c → xs[i * 10 + j]? = some c := by
    intro j c hu
    have hj : j < 10 := by
      rcases Nat.lt_or_ge j 10 with h | h
      · exact h
      · rw [List.getElem?_eq_none (by simpa [o19] using h)] at hu; cases hu
    rw [← hc, List.getElem?_take, if_pos hj, List.getElem?_drop] at hu
    exact hu
  exact ⟨u, hI, hs.cell _ _ (g 0 _ rfl), fun j c hj hc => hs.cell_off hj (g j c hc)⟩
def few19S (l : List Op19) (k : Nat) : Nat := ((l.take k).map fun o => min o.b.length 20001 + min o.y.length 20001 + min o.e.b.length 20001).sum
theorem few19S_succ {l : List Op19} {k : Nat} (h : k < l.length) : few19S l (k + 1) = few19S l k + (min l[k].b.length 20001 + min l[k].y.length 20001 + min l[k].e.b.length 20001) := by
  unfold few19S; rw [List.take_succ_eq_append_getElem h, List.map_append, List.sum_append]; simp only [List.map_cons, List.map_nil, List.sum_cons, List.sum_nil, Nat.add_zero]
theorem few19S_le (l : List Op19) (k : Nat) : few19S l k ≤ 60003 * k := by
  induction k with
  | zero => simp [few19S]
  | succ k ih =>
    by_cases h : k < l.length
    · rw [few19S_succ h]; omega
    · have : few19S l (k + 1) = few19S l k := by unfold few19S; rw [List.take_of_length_le (by omega), List.take_of_length_le (by omega)]
      rw [this]; omega
theorem few19S_mono {l : List Op19} {j k : Nat} (h : j ≤ k) (hk : k ≤ l.length) : few19S l j ≤ few19S l k := by
  induction k with
  | zero => obtain rfl : j = 0 := by omega
            exact Nat.le_refl _
  | succ k ih =>
    by_cases e : j = k + 1
    · rw [e]; exact Nat.le_refl _
    · rw [few19S_succ (by omega)]; have := ih (by omega) (by omega); omega
theorem few19S_each {l : List Op19} (h : few19S l l.length ≤ 20000) {i : Nat} (hi : i < l.length) : l[i].b.length ≤ 20000 ∧ l[i].y.length ≤ 20000 ∧ l[i].e.b.length ≤ 20000 := by
  have h1 := few19S_mono (l := l) (j := i + 1) (k := l.length) (by omega) (Nat.le_refl _)
  rw [few19S_succ hi] at h1
  omega
theorem run_min20 {P : Program} (a : Nat) (ts : Array TypeId) (ty : TypeId) (w : World) : (Builtin.min_ ts ty #[.int .i64 (a : Int), .int .i64 20001]).run P w = .ok (.int .i64 ((min a 20001 : Nat) : Int)) w := by
  by_cases h : 20001 < a
  · have e : min a 20001 = 20001 := by omega
    rw [e]; simp [Builtin.min_, Builtin.min2]; omega
  · have e : min a 20001 = a := by omega
    rw [e]; simp [Builtin.min_, Builtin.min2]; omega
def Few19Post (l : List Op19) (e : Ending) : Prop := ∃ r, e = .returned (.bool r) ∧ (r = true → l.length ≤ 300 ∧ ∀ i (hi : i < l.length), l[i].b.length ≤ 20000 ∧ l[i].y.length ≤ 20000 ∧ l[i].e.b.length ≤ 20000)
set_option maxRecDepth 100000 in
set_option maxHeartbeats 800000 in
theorem few19_any (w : World) (v : Value) (l : List Op19) (h : Ops19 w v l) :
    Calls Try.prog 43 #[v] w fun e w' => Few19Post l e ∧ Ext w w' := by
  obtain ⟨xs, hs⟩ := h.len
  have l0 := hs.run_len (P := Try.prog) IO19.und 3
  have HI := Lib.hid (hs.run_idx (P := Try.prog) IO19.und IO19.size .i64)
  have HH := Lib.hid h
  clear h hs
  go_enter Try.func43, Try.ntmps43
  go_wp2_with fail
  go_loopw [3, 4] (fun s3 s4 wr => ∃ k : Nat, k ≤ l.length ∧ k ≤ 300 ∧ s4 = .int .i64 (k : Int) ∧ s3 = .int .i64 (few19S l k : Int) ∧ Ext w wr) (fun _ i _ => l.length - (intOf i).toNat)
  case atStart => exact ⟨0, Nat.zero_le _, by omega, rfl, rfl, Mod.refl _ _⟩
  case round =>
    obtain ⟨k, hk, hk3, rfl, rfl, x⟩ := hrel
    have HX := Lib.hid x
    by_cases hlt : k < l.length
    · have hlt' : (k : Int) < (l.length : Int) := by omega
      by_cases hl3 : k < 300
      · have hl3' : (k : Int) < 300 := by omega
        have i1 := HI.out k hlt
        obtain ⟨u, hu, c0, cc⟩ := (HH.out.ext x).cells hlt
        have c8 := cc 8 _ (by decide) rfl
        have c9 := cc 9 _ (by decide) rfl
        have c5 := cc 5 _ (by decide) rfl
        have lb := Sl.run_len (P := Try.prog) hu.b IB.und 3
        have ly := hu.y.sl.run_len (P := Try.prog) II.und 3
        have le := Sl.run_len (P := Try.prog) hu.e IB.und 3
        have hle := few19S_le l k
        have HS := Lib.hid (few19S_succ hlt)
        obtain ⟨F, hF⟩ : ∃ F, F = few19S l k := ⟨_, rfl⟩
        obtain ⟨B, hB⟩ : ∃ F, F = l[k].b.length := ⟨_, rfl⟩
        obtain ⟨Y, hY⟩ : ∃ F, F = l[k].y.length := ⟨_, rfl⟩
        obtain ⟨E, hE⟩ : ∃ F, F = l[k].e.b.length := ⟨_, rfl⟩
        obtain ⟨A, hA⟩ : ∃ A, A = at_ v (k * 10) := ⟨_, rfl⟩
        obtain ⟨vb, hvb⟩ : ∃ A, A = u.b := ⟨_, rfl⟩
        obtain ⟨vy, hvy⟩ : ∃ A, A = u.y := ⟨_, rfl⟩
        obtain ⟨ve, hve⟩ : ∃ A, A = u.e := ⟨_, rfl⟩
        rw [← hF]
        rw [← hB, ← hvb] at lb
        rw [← hY, ← hvy] at ly
        rw [← hE, ← hve] at le
        rw [← hA] at i1 c8 c9 c5
        rw [← hvb] at c8
        rw [← hvy] at c9
        rw [← hve] at c5
        have n1 := fun ts ty w => run_min20 (P := Try.prog) B ts ty w
        have n2 := fun ts ty w => run_min20 (P := Try.prog) Y ts ty w
        have n3 := fun ts ty w => run_min20 (P := Try.prog) E ts ty w
        obtain ⟨B1, hB1⟩ : ∃ F, F = min B 20001 := ⟨_, rfl⟩
        obtain ⟨Y1, hY1⟩ : ∃ F, F = min Y 20001 := ⟨_, rfl⟩
        obtain ⟨E1, hE1⟩ : ∃ F, F = min E 20001 := ⟨_, rfl⟩
        rw [← hB1] at n1
        rw [← hY1] at n2
        rw [← hE1] at n3
        have y1 : IntKind.i64.wrap ((F : Int) + (B1 : Int)) = (F : Int) + B1 := IntWalk.i64_in _ (by omega)
        have y2 : IntKind.i64.wrap ((F : Int) + (B1 : Int) + (Y1 : Int)) = (F : Int) + B1 + Y1 := IntWalk.i64_in _ (by omega)
        have y3 : IntKind.i64.wrap ((F : Int) + (B1 : Int) + (Y1 : Int) + (E1 : Int)) = (F : Int) + B1 + Y1 + E1 := IntWalk.i64_in _ (by omega)
        have HF : Hid (few19S l (k + 1) = F + B1 + Y1 + E1) := Lib.hid (by rw [HS.out, hF, hB1, hY1, hE1, hB, hY, hE]; omega)
        clear hu c0 cc hF hB hY hE hA hvb hvy hve hB1 hY1 hE1 x hle
        go_upto_region 5 with fail
        refine wp_region_plan [(0, true), (1, true), (2, true), (3, true), (4, true), (5, true), (6, true), (7, true), (8, true), (9, true), (10, true), (11, true), (12, true), (13, true), (14, true), (15, true), (16, true), (17, true), (18, true), (19, true), (20, true), (21, true), (22, true), (23, true), (24, true), (25, true), (26, true)] (fun w' => w'.cell? ⟨A.block, A.off + 8, none⟩ = some vb ∧ w'.cell? ⟨A.block, A.off + 9, none⟩ = some vy ∧ w'.cell? ⟨A.block, A.off + 5, none⟩ = some ve) (by kernel_rfl) (by kernel_rfl) (by kernel_rfl) (fun _ d _ _ _ h => by cases d <;> exact h) (⟨c8, c9, c5⟩) ?_
        simp only [planL, getO]
        iterate 27 (refine plan_take (v := ?_) (by rfl) (fun wS hS => ?_) ?_; rotate_left; (focus ((try dsimp only at hS); go_simp; (try with_reducible rfl); done)); (try simp only [Act.put, List.setIfInBounds_toArray, List.set_cons_zero, List.set_cons_succ]))
        refine plan_nil ?_
        go_wp2_with fail
        go_roundw
        case rel => exact ⟨k + 1, by omega, by omega, by go_num, by rw [HF.out]; congr 1, HX.out.drew⟩
        case measure => simp [intOf]; omega
      · have hl3' : ¬ (k : Int) < 300 := by omega
        have hl4 : ¬ (l.length : Int) ≤ 300 := by omega
        clear x
        go_wp2_with fail
        go_ret
        exact ⟨⟨_, rfl, fun e => by cases e⟩, HX.out⟩
    · have hlt' : ¬ (k : Int) < (l.length : Int) := by omega
      obtain rfl : k = l.length := by omega
      have hl3' : (l.length : Int) ≤ 300 := by omega
      have HE := Lib.hid (fun h => fun i hi => few19S_each (l := l) h (i := i) hi)
      clear x
      by_cases hf : few19S l l.length ≤ 20000
      · have hf' : (few19S l l.length : Int) ≤ 20000 := by omega
        go_wp2_with fail
        go_ret
        exact ⟨⟨_, rfl, fun _ => ⟨by omega, HE.out hf⟩⟩, HX.out⟩
      · have hf' : ¬ (few19S l l.length : Int) ≤ 20000 := by omega
        go_wp2_with fail
        go_ret
        exact ⟨⟨_, rfl, fun e => by cases e⟩, HX.out⟩
end Go.Proofs.Ytnnciakdeoopaaa
