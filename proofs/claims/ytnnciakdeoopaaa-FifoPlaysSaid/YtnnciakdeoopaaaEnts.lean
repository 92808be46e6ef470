/-
  Entries that came in, in memory; renlaw19.filled. No condition.
-/
import Derived.Test.YtnnciakdeoopaaaFifoFirst
import Derived.Test.YtnnciakdeoopaaaShape
namespace Go.Proofs.Ytnnciakdeoopaaa
open Go.Ren Go.RowKit
set_option linter.unusedVariables false

def EntReads (w : World) (o : Ent) (cs : List Value) : Prop :=
  ∃ vb, cs = [.int .i64 o.blk, .int .i64 o.at_, vb, .int .i64 o.by_, .bool o.tears] ∧ BytesAt w vb o.b ∧ I64 o.blk ∧ I64 o.at_ ∧ I64 o.by_
def entSh : Sh := .st (.fcons 1 .i64 (.fcons 1 .i64 (.fcons 1 (.sl 1 .u8) (.fcons 1 .i64 (.fcons 1 .bool .fnil)))))
def EntsAt (w : World) (v : Value) (l : List Ent) : Prop := ∃ xs, Sl w v 5 l.length xs ∧ ∀ i (hi : i < l.length), EntReads w l[i] ((xs.drop (i * 5)).take 5)

theorem one_of' {cs : List Value} {u : Value} (h : cs.take 1 = [u]) : cs = u :: cs.drop 1 := by
  have := List.take_append_drop 1 cs
  rw [h] at this; exact this.symm
theorem ent_dec {w : World} {cs : List Value} (h : entSh.Has w cs) : ∃ o, EntReads w o cs := by
  obtain ⟨⟨bl, h1, i1⟩, ⟨a, h2, i2⟩, h3, ⟨y, h4, i4⟩, ⟨t, h5⟩, h6⟩ := h
  obtain ⟨vb, b, h3, hb⟩ := Sh.bytes h3
  refine ⟨⟨bl, a, b, y, t⟩, vb, ?_, hb, i1, i2, i4⟩
  rw [one_of' h1, one_of' h2, one_of' h3, one_of' h4, one_of' h5, h6]
set_option maxRecDepth 100000 in
theorem ents_arg {H : Type} {enc : TypeId × Value → H} {w : World} {base : Nat} {spare : Nat → Bool} {held : Bool} {v : Value} {d : DataW H} {ps : List MemPlace} {r : Reach} {b0 : Nat} (hval : Value.okWide Try.prog w r b0 22 v)
    (h : DataW.Trod enc Try.prog w base spare held 22 v d ps) : ∃ l, EntsAt w v l := by
  have hs := Sh.open_slice_arg (sz := 5) (s := entSh) Try.underlying22 (by kernel_rfl) hval h
  obtain ⟨l, xs, h1, h2⟩ := Sh.dec (R := EntReads w) hs (fun cs h => ent_dec h)
  exact ⟨l, xs, h1, h2⟩
theorem EntsAt.ext {w w' : World} {v : Value} {l : List Ent} (h : EntsAt w v l) (x : Ext w w') : EntsAt w' v l := by
  obtain ⟨xs, hs, hr⟩ := h
  exact ⟨xs, hs.ext (by decide) x, fun i hi => by obtain ⟨vb, h1, h2, h3⟩ := hr i hi; exact ⟨vb, h1, h2.ext x, h3⟩⟩
theorem EntsAt.len {w : World} {v : Value} {l : List Ent} (h : EntsAt w v l) : ∃ xs, Sl w v 5 l.length xs := by obtain ⟨xs, hs, _⟩ := h; exact ⟨xs, hs⟩
theorem EntsAt.cells {w : World} {v : Value} {l : List Ent} (h : EntsAt w v l) {i : Nat} (hi : i < l.length) : ∃ vb, BytesAt w vb l[i].b ∧
    w.cell? (at_ v (i * 5)) = some (.int .i64 l[i].blk) ∧ w.cell? ⟨(at_ v (i * 5)).block, (at_ v (i * 5)).off + 1, none⟩ = some (.int .i64 l[i].at_) ∧ w.cell? ⟨(at_ v (i * 5)).block, (at_ v (i * 5)).off + 2, none⟩ = some vb ∧
    w.cell? ⟨(at_ v (i * 5)).block, (at_ v (i * 5)).off + 3, none⟩ = some (.int .i64 l[i].by_) ∧ w.cell? ⟨(at_ v (i * 5)).block, (at_ v (i * 5)).off + 4, none⟩ = some (.bool l[i].tears) ∧ I64 l[i].blk ∧ I64 l[i].at_ ∧ I64 l[i].by_ := by
  obtain ⟨xs, hs, hr⟩ := h
  obtain ⟨vb, hc, hb, hI⟩ := hr i hi
  have g : ∀ j u, j < 5 → [Value.int .i64 l[i].blk, .int .i64 l[i].at_, vb, .int .i64 l[i].by_, .bool l[i].tears][j]? = some u → xs[i * 5 + j]? = some u := by
    intro j u hj hu
    rw [← hc, List.getElem?_take, if_pos hj, List.getElem?_drop] at hu
    exact hu
  exact ⟨vb, hb, hs.cell _ _ (g 0 _ (by decide) rfl), hs.cell_off (by decide) (g 1 _ (by decide) rfl), hs.cell_off (by decide) (g 2 _ (by decide) rfl), hs.cell_off (by decide) (g 3 _ (by decide) rfl), hs.cell_off (by decide) (g 4 _ (by decide) rfl), hI⟩

def fits64 (e : Ent) : Prop := 0 ≤ e.at_ ∧ e.at_ ≤ 56 ∧ e.b.length ≤ 8
instance (e : Ent) : Decidable (fits64 e) := by unfold fits64; infer_instance
def fill1 (E : List Ent) (e : Ent) : List Ent := if fits64 e then qput 64 E { e with blk := 0 } else E
def fillE (l : List Ent) : List Ent := l.foldl fill1 []
theorem fillE_snoc {l : List Ent} {i : Nat} (h : i < l.length) : fillE (l.take (i + 1)) = fill1 (fillE (l.take i)) l[i] := by
  unfold fillE
  rw [List.take_succ_eq_append_getElem h, List.foldl_append]; rfl

set_option maxRecDepth 100000 in
set_option maxHeartbeats 1600000 in
theorem filled_any (w : World) (v : Value) (l : List Ent) (h : EntsAt w v l) :
    Calls Try.prog 14 #[v] w fun e w' => ∃ pq S, e = .returned (.pointer (some ⟨pq, 0, none⟩)) ∧ QueueAt w' (.pointer (some ⟨pq, 0, none⟩)) 64 (fillE l) S ∧ Ext w w' ∧ ∀ k, S k → w.heap.size ≤ k := by
  obtain ⟨xs, hs⟩ := h.len
  have ll := hs.run_len (P := Try.prog) IE.und 3
  have hI := hs.run_idx (P := Try.prog) IE.und IE.size .i64
  have HH := Lib.hid h
  have HI := Lib.hid hI
  obtain ⟨c, _, hcs⟩ : ∃ c, l.length ≤ c ∧ c ≤ maxLen := by obtain ⟨_, c, _, h1, h2, _⟩ := hs.shape; exact ⟨c, h1, h2⟩
  have hmx : l.length ≤ 9223372036854775807 := by simp only [maxLen] at hcs; omega
  clear hs hI h hcs
  go_enter Try.func14, Try.ntmps14
  go_wp2_with fail
  refine (qnew_any _ _).mono ?_
  rintro e w1 ⟨h, -⟩
  obtain ⟨pq, S1, rfl, Q1, x1, f1⟩ := h (by decide)
  clear h
  change QueueAt w1 _ 64 [] S1 at Q1
  go_wp2_with fail
  go_loopw [5] (fun s5 wr => ∃ (i : Nat) (S : Nat → Prop), i ≤ l.length ∧ s5 = .int .i64 (i : Int) ∧ QueueAt wr (.pointer (some ⟨pq, 0, none⟩)) 64 (fillE (l.take i)) S ∧ Ext w wr ∧ ∀ k, S k → w.heap.size ≤ k) (fun i _ => l.length - (intOf i).toNat)
  case atStart => exact ⟨0, S1, Nat.zero_le _, rfl, Q1, x1, f1⟩
  case round =>
    obtain ⟨i, S, hi, rfl, Q, X, g⟩ := hrel
    clear Q1 x1 f1
    by_cases hlt : i < l.length
    · have hlt' : (i : Int) < (l.length : Int) := by omega
      have i0 := HI.out i hlt
      obtain ⟨vb, hb, c0, c1, c2, c3, c4, ib, ia, iy⟩ := (HH.out.ext X).cells hlt
      have hsn := fillE_snoc hlt
      obtain ⟨⟨bl, ea, b, y, te⟩, he⟩ : ∃ e, e = l[i] := ⟨_, rfl⟩
      rw [← he] at hb c0 c1 c3 c4 ib ia iy hsn
      simp only at hb c0 c1 c3 c4 ib ia iy
      have k1 := Sl.cells_eq hb
      have t1 := Sl.run_st (P := Try.prog) hb
      have lb := Sl.run_len (P := Try.prog) hb IB.und 3
      obtain ⟨w0, hw0⟩ : ∃ w0, w0 = wr.alloc (.cells #[.int .i64 bl, .int .i64 ea, vb, .int .i64 y, .bool te] 65) := ⟨_, rfl⟩
      obtain ⟨gg, hg⟩ : ∃ g, g = wr.heap.size := ⟨_, rfl⟩
      have x0 : Ext wr w0 := by rw [hw0]; exact (Mod.refl _ _).alloc _
      have h0 : w0.heap[gg]? = some (.cells #[.int .i64 bl, .int .i64 ea, vb, .int .i64 y, .bool te] 65 (0, 0)) := by rw [hw0, hg]; simp only [heap_alloc_if, if_true]
      obtain ⟨w5, hw5⟩ : ∃ w5, w5 = w0.setCell ⟨gg, 0, none⟩ (.int .i64 0) := ⟨_, rfl⟩
      have x5 : Ext wr w5 := by rw [hw5, hw0, hg]; exact ((Mod.refl _ _).alloc _).setCell (.inr (Nat.le_refl _)) _
      have h5 : w5.heap[gg]? = some (.cells #[.int .i64 0, .int .i64 ea, vb, .int .i64 y, .bool te] 65 (0, 0)) := by rw [hw5]; simp [World.setCell, Array.getElem?_modify, h0]
      have d0 : w0.cell? ⟨gg, 0, none⟩ = some (.int .i64 bl) := by simp [World.cell?, h0]
      have fz : w0.frozen? ⟨gg, 0, none⟩ = false := by simp [World.frozen?, h0]
      obtain ⟨e0, e1, e2, e3, e4⟩ : w5.cell? ⟨gg, 0, none⟩ = some (.int .i64 0) ∧ w5.cell? ⟨gg, 1, none⟩ = some (.int .i64 ea) ∧ w5.cell? ⟨gg, 2, none⟩ = some vb ∧ w5.cell? ⟨gg, 3, none⟩ = some (.int .i64 y) ∧ w5.cell? ⟨gg, 4, none⟩ = some (.bool te) := by simp [World.cell?, h5]
      have Q5 := Q.ext x5
      have X5 : Ext w w5 := X.trans x5
      have hb5 := BytesAt.ext hb x5
      have HG := Lib.hid (And.intro hw0 (And.intro hg hw5))
      have HS := Lib.hid hsn
      have QQ := Lib.hid (And.intro Q5 (And.intro X5 (And.intro g hb5)))
      clear Q X he hsn hw0 hg hw5 x0 x5 h0 h5 Q5 X5 hb g hb5
      go_upto_region 8 with fail
      rw [← HG.out.1, ← HG.out.2.1]
      go_upto_region 9 with fail
      rw [← HG.out.2.2]
      clear c0 c1 c2 c3 c4 d0 fz k1 t1
      rcases (by omega : ea < 0 ∨ (0 ≤ ea ∧ 56 < ea) ∨ (0 ≤ ea ∧ ea ≤ 56 ∧ 8 < b.length) ∨ (0 ≤ ea ∧ ea ≤ 56 ∧ b.length ≤ 8)) with z1 | ⟨z1, z2⟩ | ⟨z1, z2, z3⟩ | ⟨z1, z2, z3⟩
      case' inr.inr.inl => have z3' : ¬ (b.length : Int) ≤ 8 := by omega
      case inr.inr.inr =>
        have z3' : (b.length : Int) ≤ 8 := by omega
        have hf : fill1 (fillE (l.take i)) ⟨bl, ea, b, y, te⟩ = qput 64 (fillE (l.take i)) ⟨0, ea, b, y, te⟩ := by unfold fill1; rw [if_pos ⟨z1, z2, z3⟩]
        have HF := Lib.hid hf
        clear hf
        go_wp2_with fail
        refine (qput_any _ _ _ _ _ QQ.out.1 ⟨0, ea, b, y, te⟩ _ QQ.out.2.2.2 ⟨(show I64 0 from ⟨by decide, by decide⟩), iy⟩).mono ?_
        rintro e w6 ⟨rfl, S6, Q6, x6, f6⟩
        have F6 := Lib.hid (And.intro Q6 (And.intro x6 f6))
        clear Q6 x6 f6
        go_wp2_with fail
        go_roundw
        case rel =>
          obtain ⟨Q6, x6, f6⟩ := F6.out
          exact ⟨i + 1, S6, by omega, by go_num, by rw [HS.out, HF.out]; exact Q6, QQ.out.2.1.trans' x6 (fun k h => .inr (QQ.out.2.2.1 k h)), fun k h => (f6 k h).elim (QQ.out.2.2.1 k) (fun h => Nat.le_trans QQ.out.2.1.size h)⟩
        case measure => simp [intOf]; omega
      all_goals
        have hf : fill1 (fillE (l.take i)) ⟨bl, ea, b, y, te⟩ = fillE (l.take i) := by unfold fill1; rw [if_neg (by unfold fits64; simp only; omega)]
        have HF := Lib.hid hf
        clear hf
        go_wp2_with fail
        go_roundw
        case rel => exact ⟨i + 1, S, by omega, by go_num, by rw [HS.out, HF.out]; exact QQ.out.1, QQ.out.2.1, QQ.out.2.2.1⟩
        case measure => simp [intOf]; omega
    · have hlt' : ¬ (i : Int) < (l.length : Int) := by omega
      obtain rfl : i = l.length := by omega
      rw [List.take_length] at Q
      have QQ := Lib.hid (And.intro Q (And.intro X g))
      clear Q X g
      go_wp2_with fail
      go_ret
      exact ⟨pq, rfl, S, QQ.out.1, QQ.out.2.1, QQ.out.2.2⟩
end Go.Proofs.Ytnnciakdeoopaaa
