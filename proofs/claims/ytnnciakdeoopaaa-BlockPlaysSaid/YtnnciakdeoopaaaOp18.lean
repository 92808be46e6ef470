/-
  The operations of renlaw18.BlockPlays in memory, and renlaw18.few. No condition.
-/
import Derived.Test.YtnnciakdeoopaaaBlkSame
import Derived.Test.YtnnciakdeoopaaaShape
namespace Go.Proofs.Ytnnciakdeoopaaa
open Go.Ren Go.RowKit
set_option linter.unusedVariables false

structure Op18 where
  kind : Int
  blk : Int
  at_ : Int
  n : Int
  b : List UInt8
  by_ : Int

def Op18.Reads (w : World) (o : Op18) (cs : List Value) : Prop :=
  ∃ vb, cs = [.int .i64 o.kind, .int .i64 o.blk, .int .i64 o.at_, .int .i64 o.n, vb, .int .i64 o.by_] ∧ BytesAt w vb o.b ∧ I64 o.kind ∧ I64 o.blk ∧ I64 o.at_ ∧ I64 o.n ∧ I64 o.by_
def opSh : Sh := .st (.fcons 1 .i64 (.fcons 1 .i64 (.fcons 1 .i64 (.fcons 1 .i64 (.fcons 1 (.sl 1 .u8) (.fcons 1 .i64 .fnil))))))
def OpsAt (w : World) (v : Value) (l : List Op18) : Prop := ∃ xs, Sl w v 6 l.length xs ∧ ∀ i (hi : i < l.length), Op18.Reads w l[i] ((xs.drop (i * 6)).take 6)

theorem one_of {cs : List Value} {u : Value} (h : cs.take 1 = [u]) : cs = u :: cs.drop 1 := by
  have := List.take_append_drop 1 cs
  rw [h] at this; exact this.symm
theorem op_dec {w : World} {cs : List Value} (h : opSh.Has w cs) : ∃ o, Op18.Reads w o cs := by
  obtain ⟨⟨k, h1, i1⟩, ⟨bl, h2, i2⟩, ⟨a, h3, i3⟩, ⟨n, h4, i4⟩, h5, ⟨y, h6, i6⟩, h7⟩ := h
  obtain ⟨vb, b, h5, hb⟩ := Sh.bytes h5
  refine ⟨⟨k, bl, a, n, b, y⟩, vb, ?_, hb, i1, i2, i3, i4, i6⟩
  rw [one_of h1, one_of h2, one_of h3, one_of h4, one_of h5, one_of h6, h7]
set_option maxRecDepth 100000 in
theorem ops_arg {H : Type} {enc : TypeId × Value → H} {w : World} {base : Nat} {spare : Nat → Bool} {held : Bool} {v : Value} {d : DataW H} {ps : List MemPlace} {r : Reach} {b0 : Nat} (hval : Value.okWide Try.prog w r b0 49 v)
    (h : DataW.Trod enc Try.prog w base spare held 49 v d ps) : ∃ l, OpsAt w v l := by
  have hs := Sh.open_slice_arg (sz := 6) (s := opSh) Try.underlying49 (by kernel_rfl) hval h
  obtain ⟨l, xs, h1, h2⟩ := Sh.dec (R := Op18.Reads w) hs (fun cs h => op_dec h)
  exact ⟨l, xs, h1, h2⟩

theorem IOp : EInfo Try.prog 49 56 6 64 (.agg #[.int .i64 0, .int .i64 0, .int .i64 0, .int .i64 0, .slice none 0 0, .int .i64 0]) := ⟨Try.underlying49, by kernel_rfl, rfl, by decide⟩

/-- The cells of operation i. -/
theorem OpsAt.cells {w : World} {v : Value} {l : List Op18} (h : OpsAt w v l) {i : Nat} (hi : i < l.length) : ∃ vb, BytesAt w vb l[i].b ∧
    w.cell? (at_ v (i * 6)) = some (.int .i64 l[i].kind) ∧ w.cell? ⟨(at_ v (i * 6)).block, (at_ v (i * 6)).off + 1, none⟩ = some (.int .i64 l[i].blk) ∧ w.cell? ⟨(at_ v (i * 6)).block, (at_ v (i * 6)).off + 2, none⟩ = some (.int .i64 l[i].at_) ∧
    w.cell? ⟨(at_ v (i * 6)).block, (at_ v (i * 6)).off + 3, none⟩ = some (.int .i64 l[i].n) ∧ w.cell? ⟨(at_ v (i * 6)).block, (at_ v (i * 6)).off + 4, none⟩ = some vb ∧ w.cell? ⟨(at_ v (i * 6)).block, (at_ v (i * 6)).off + 5, none⟩ = some (.int .i64 l[i].by_) ∧
    I64 l[i].kind ∧ I64 l[i].blk ∧ I64 l[i].at_ ∧ I64 l[i].n ∧ I64 l[i].by_ := by
  obtain ⟨xs, hs, hr⟩ := h
  obtain ⟨vb, hc, hb, hI⟩ := hr i hi
  have g : ∀ j u, j < 6 → [Value.int .i64 l[i].kind, .int .i64 l[i].blk, .int .i64 l[i].at_, .int .i64 l[i].n, vb, .int .i64 l[i].by_][j]? = some u → xs[i * 6 + j]? = some u := by
    intro j u hj hu
    rw [← hc, List.getElem?_take, if_pos hj, List.getElem?_drop] at hu
    exact hu
  exact ⟨vb, hb, hs.cell _ _ (g 0 _ (by decide) rfl), hs.cell_off (by decide) (g 1 _ (by decide) rfl), hs.cell_off (by decide) (g 2 _ (by decide) rfl), hs.cell_off (by decide) (g 3 _ (by decide) rfl), hs.cell_off (by decide) (g 4 _ (by decide) rfl), hs.cell_off (by decide) (g 5 _ (by decide) rfl), hI⟩
theorem OpsAt.len {w : World} {v : Value} {l : List Op18} (h : OpsAt w v l) : ∃ xs, Sl w v 6 l.length xs := by obtain ⟨xs, hs, _⟩ := h; exact ⟨xs, hs⟩

def fewSum (l : List Op18) (k : Nat) : Nat := ((l.take k).map fun o => min o.b.length 20001).sum
theorem fewSum_succ {l : List Op18} {k : Nat} (h : k < l.length) : fewSum l (k + 1) = fewSum l k + min l[k].b.length 20001 := by
  unfold fewSum; rw [List.take_succ_eq_append_getElem h, List.map_append, List.sum_append]; simp only [List.map_cons, List.map_nil, List.sum_cons, List.sum_nil, Nat.add_zero]
theorem fewSum_le (l : List Op18) (k : Nat) : fewSum l k ≤ 20001 * k := by
  induction k with
  | zero => simp [fewSum]
  | succ k ih =>
    by_cases h : k < l.length
    · rw [fewSum_succ h]; omega
    · have : fewSum l (k + 1) = fewSum l k := by unfold fewSum; rw [List.take_of_length_le (by omega), List.take_of_length_le (by omega)]
      rw [this]; omega
theorem fewSum_mono {l : List Op18} {j k : Nat} (h : j ≤ k) (hk : k ≤ l.length) : fewSum l j ≤ fewSum l k := by
  induction k with
  | zero => obtain rfl : j = 0 := by omega
            exact Nat.le_refl _
  | succ k ih =>
    by_cases e : j = k + 1
    · rw [e]; exact Nat.le_refl _
    · rw [fewSum_succ (by omega)]; have := ih (by omega) (by omega); omega
theorem fewSum_each {l : List Op18} (h : fewSum l l.length ≤ 20000) {i : Nat} (hi : i < l.length) : l[i].b.length ≤ 20000 := by
  have h1 := fewSum_mono (l := l) (j := i + 1) (k := l.length) (by omega) (Nat.le_refl _)
  rw [fewSum_succ hi] at h1
  omega

def FewPost (l : List Op18) (e : Ending) : Prop := ∃ r, e = .returned (.bool r) ∧ (r = true → l.length ≤ 300 ∧ ∀ i (hi : i < l.length), l[i].b.length ≤ 20000)
set_option maxRecDepth 100000 in
theorem few_any (w : World) (v : Value) (l : List Op18) (h : OpsAt w v l) :
    Calls Try.prog 26 #[v] w fun e w' => FewPost l e ∧ w' = w := by
  obtain ⟨xs, hs⟩ := h.len
  have l0 := hs.run_len (P := Try.prog) IOp.und 3
  have hI := hs.run_idx (P := Try.prog) IOp.und IOp.size .i64
  go_enter Try.func26, Try.ntmps26
  go_wp2_with fail
  go_loopw [3, 4] (fun s3 s4 wr => ∃ k : Nat, k ≤ l.length ∧ k ≤ 300 ∧ s4 = .int .i64 (k : Int) ∧ s3 = .int .i64 (fewSum l k : Int) ∧ wr = w) (fun _ i _ => l.length - (intOf i).toNat)
  case atStart => exact ⟨0, Nat.zero_le _, by omega, rfl, rfl, rfl⟩
  case round =>
    obtain ⟨k, hk, hk3, rfl, rfl, rfl⟩ := hrel
    by_cases hlt : k < l.length
    · have hlt' : (k : Int) < (l.length : Int) := by omega
      by_cases hl3 : k < 300
      · have hl3' : (k : Int) < 300 := by omega
        have i1 := hI k hlt
        obtain ⟨vb, hb, c0, c1, c2, c3, c4, c5, _⟩ := h.cells hlt
        have lb := Sl.run_len (P := Try.prog) hb IB.und 3
        have hsum := fewSum_succ hlt
        have hle := fewSum_le l k
        have HS := Lib.hid hsum
        have hle' : (fewSum l k : Int) ≤ 20001 * 300 := by omega
        obtain ⟨F, hF⟩ : ∃ F, F = fewSum l k := ⟨_, rfl⟩
        rw [← hF] at hle' ⊢
        obtain ⟨bl, hbl⟩ : ∃ bl, bl = l[k].b.length := ⟨_, rfl⟩
        rw [← hbl] at lb
        have HF := Lib.hid (And.intro hF hbl)
        clear hsum hle hb hF hbl hI hs h
        go_wp2_with fail
        go_roundw
        case rel => exact ⟨k + 1, by omega, by omega, by go_num, by rw [HS.out, ← HF.out.1, ← HF.out.2]; congr 1; split <;> omega, trivial⟩
        case measure => simp [intOf]; omega
      · have hl3' : ¬ (k : Int) < 300 := by omega
        have hl4 : ¬ (l.length : Int) ≤ 300 := by omega
        clear h
        go_wp2_with fail
        go_ret
        exact ⟨⟨_, rfl, fun e => by cases e⟩, rfl⟩
    · have hlt' : ¬ (k : Int) < (l.length : Int) := by omega
      obtain rfl : k = l.length := by omega
      have hl3' : (l.length : Int) ≤ 300 := by omega
      have HE := Lib.hid (fun h => fun i hi => fewSum_each (l := l) h (i := i) hi)
      by_cases hf : fewSum l l.length ≤ 20000
      · have hf' : (fewSum l l.length : Int) ≤ 20000 := by omega
        clear h
        go_wp2_with fail
        go_ret
        exact ⟨⟨_, rfl, fun _ => ⟨by omega, HE.out hf⟩⟩, rfl⟩
      · have hf' : ¬ (fewSum l l.length : Int) ≤ 20000 := by omega
        clear h
        go_wp2_with fail
        go_ret
        exact ⟨⟨_, rfl, fun e => by cases e⟩, rfl⟩
end Go.Proofs.Ytnnciakdeoopaaa
