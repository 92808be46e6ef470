/-
  The contract of rel.Rel's List. No condition.
-/
import Derived.Test.YtkibdabbjbcboaaRelLoop
namespace Go.Ren
set_option linter.unusedVariables false
def rowP (R : Nat → Nat → Bool) (a b : Nat) : List (Int × Int) := ((List.range b).filter (R a)).map fun y : Nat => ((a : Int), (y : Int))
def listP (R : Nat → Nat → Bool) (n a : Nat) : List (Int × Int) := (List.range a).flatMap fun x => rowP R x n
def listR (n : Nat) (R : Nat → Nat → Bool) : List (Int × Int) := listP R n n
theorem rowP_yes {R : Nat → Nat → Bool} {a b : Nat} (h : R a b = true) : rowP R a (b + 1) = rowP R a b ++ [((a : Int), (b : Int))] := by simp [rowP, List.range_succ, List.filter_append, h]
theorem rowP_no {R : Nat → Nat → Bool} {a b : Nat} (h : R a b = false) : rowP R a (b + 1) = rowP R a b := by simp [rowP, List.range_succ, List.filter_append, h]
theorem listP_succ (R : Nat → Nat → Bool) (n a : Nat) : listP R n (a + 1) = listP R n a ++ rowP R a n := by simp [listP, List.range_succ, List.flatMap_append]
theorem rowP_len (R : Nat → Nat → Bool) (a b : Nat) : (rowP R a b).length ≤ b := by
  unfold rowP
  rw [List.length_map]
  exact Nat.le_trans (List.length_filter_le _ _) (by rw [List.length_range]; exact Nat.le_refl _)
theorem listP_len (R : Nat → Nat → Bool) {n : Nat} (hn : n ≤ 64) (a : Nat) : (listP R n a).length ≤ a * 64 := by
  induction a with
  | zero => simp [listP]
  | succ a ih => rw [listP_succ, List.length_append]; have := rowP_len R a n; omega
theorem mem_listR {n : Nat} {R : Nat → Nat → Bool} {p : Int × Int} : p ∈ listR n R ↔ ∃ a b : Nat, p = ((a : Int), (b : Int)) ∧ a < n ∧ b < n ∧ R a b = true := by
  unfold listR listP rowP
  simp only [List.mem_flatMap, List.mem_range, List.mem_map, List.mem_filter]
  constructor
  · rintro ⟨a, ha, b, ⟨hb, hr⟩, rfl⟩; exact ⟨a, b, rfl, ha, hb, hr⟩
  · rintro ⟨a, b, rfl, ha, hb, hr⟩; exact ⟨a, ha, b, ⟨hb, hr⟩, rfl⟩
theorem rowP_congr {R R' : Nat → Nat → Bool} {a n : Nat} (e : ∀ b, b < n → R a b = R' a b) : rowP R a n = rowP R' a n := by
  unfold rowP
  congr 1
  exact List.filter_congr fun b hb => e b (List.mem_range.1 hb)
theorem listP_congr {n a : Nat} {R R' : Nat → Nat → Bool} (ha : a ≤ n) (e : ∀ a b, a < n → b < n → R a b = R' a b) : listP R n a = listP R' n a := by
  induction a with
  | zero => rfl
  | succ a ih => rw [listP_succ, listP_succ, ih (by omega), rowP_congr fun b hb => e a b (by omega) hb]
theorem listR_congr {n : Nat} {R R' : Nat → Nat → Bool} (e : ∀ a b, a < n → b < n → R a b = R' a b) : listR n R = listR n R' := listP_congr (Nat.le_refl _) e
end Go.Ren
namespace Go.Proofs.Ytkibdabbjbcboaa
open Go.Ren Go.RowKit
set_option linter.unusedVariables false

/-- A row of pairs that is the call's own. -/
def PairsOwn (w : World) (v : Value) (l : List (Int × Int)) : Prop := Own w 32 2 v l.length (flat 2 l.length (fun i j => prcell (prn l i) j))
theorem pairs_push {w : World} {v : Value} {l : List (Int × Int)} {p : Int × Int} (ol : Own w 32 2 v (l.length + 1) (flat 2 l.length (fun i j => prcell (prn l i) j) ++ [.int .i64 p.1, .int .i64 p.2])) : PairsOwn w v (l ++ [p]) := by
  unfold PairsOwn
  have e : flat 2 (l.length + 1) (fun i j => prcell (prn (l ++ [p]) i) j) = flat 2 l.length (fun i j => prcell (prn l i) j) ++ [.int .i64 p.1, .int .i64 p.2] := by
    rw [flat_succ _ _ _ (by decide)]
    congr 1
    · exact flat_congr fun i j hi _ => by rw [prn_snoc_lt hi]
    · simp [List.range, List.range.loop, prcell, prn_snoc]
  rw [List.length_append, List.length_singleton, e]
  exact ol
def RListPost (n : Nat) (R : Nat → Nat → Bool) (w : World) (e : Ending) (w' : World) : Prop := ∃ v, e = .returned v ∧ PairsOwn w' v (listR n R) ∧ Ext w w' ∧ ∀ q, v.ownBlock = some q → w.heap.size ≤ q

theorem pairs_more {w w1 w2 : World} {v v' : Value} {l : List (Int × Int)} {a b : Nat} (x : Ext w w1) (hf : ∀ q, v.ownBlock = some q → w.heap.size ≤ q)
    (ol : Own w2 32 2 v' (l.length + 1) (flat 2 l.length (fun i j => prcell (prn l i) j) ++ [.int .i64 (a : Int), .int .i64 (b : Int)])) (M : Mod (fun q => v.ownBlock = some q) w1 w2)
    (fr : ∀ q, v'.ownBlock = some q → v.ownBlock = some q ∨ w1.heap.size ≤ q) : PairsOwn w2 v' (l ++ [((a : Int), (b : Int))]) ∧ Ext w w2 ∧ ∀ q, v'.ownBlock = some q → w.heap.size ≤ q :=
  ⟨pairs_push (p := ((a : Int), (b : Int))) ol, x.trans' M (fun q hq => .inr (hf q hq)), fun q hq => by
    rcases fr q hq with h | h
    · exact hf q h
    · have := x.size; omega⟩
set_option maxRecDepth 100000 in
set_option maxHeartbeats 800000 in
theorem rlist_any (w : World) (p : Value) (n : Nat) (R : Nat → Nat → Bool) (h : RelIs w p n R) :
    Calls Try.prog 18 #[p] w (RListPost n R w) := by
  obtain ⟨g, rfl⟩ := h.ptr
  have KR : Hid (∀ w', Ext w w' → RelIs w' (.pointer (some ⟨g, 0, none⟩)) n R) := Lib.hid fun w' x => h.ext x
  have d0 := h.len.1
  have hn := h.len.2
  have hnI : (n : Int) ≤ 64 := by omega
  have HLEN : Hid (∀ a b, a < n → b < n → (listP R n a ++ rowP R a b).length ≤ 5000) := Lib.hid fun a b ha hb => by
    rw [List.length_append]
    have h1 := listP_len R hn a
    have h2 := rowP_len R a b
    omega
  clear h
  go_enter Try.func18, Try.ntmps18
  go_wp2_with fail
  clear d0
  go_loopw [3, 10] (fun s3 s10 wr => ∃ a : Nat, a ≤ n ∧ s10 = .int .i64 (a : Int) ∧ PairsOwn wr s3 (listP R n a) ∧ Ext w wr ∧ ∀ q, s3.ownBlock = some q → w.heap.size ≤ q) (fun _ s _ => n - (intOf s).toNat)
  case atStart => exact ⟨0, Nat.zero_le _, rfl, Own.nil _ _ _, Mod.refl _ _, fun q hq => by cases hq⟩
  case round =>
    obtain ⟨a, ha, rfl, ho, x, hf⟩ := hrel
    by_cases hlt : a < n
    · have hlt' : (a : Int) < (n : Int) := by omega
      have d0 := (KR.out _ x).len.1
      have H := Lib.hid (And.intro ho (And.intro x hf))
      clear ho x hf
      go_wp2_with fail
      clear d0
      go_loopw [3, 17] (fun s3 s17 wr => ∃ b : Nat, b ≤ n ∧ s17 = .int .i64 (b : Int) ∧ PairsOwn wr s3 (listP R n a ++ rowP R a b) ∧ Ext w wr ∧ ∀ q, s3.ownBlock = some q → w.heap.size ≤ q) (fun _ s _ => n - (intOf s).toNat)
      case atStart => exact ⟨0, Nat.zero_le _, rfl, by simpa [rowP] using H.out.1, H.out.2.1, H.out.2.2⟩
      case round =>
        obtain ⟨b, hb, rfl, ho, x, hf⟩ := hrel
        by_cases hbl : b < n
        · have hbl' : (b : Int) < (n : Int) := by omega
          have hr := KR.out _ x
          have HQ : Hid (hasB n R (a : Int) (b : Int) = R a b) := Lib.hid (by
            unfold hasB
            have : decide (0 ≤ (a : Int) ∧ (a : Int) < (n : Int) ∧ 0 ≤ (b : Int) ∧ (b : Int) < (n : Int)) = true := by rw [decide_eq_true_eq]; omega
            rw [this]; simp)
          have H2 := Lib.hid (And.intro ho (And.intro x hf))
          have HR := Lib.hid hr
          clear ho x hf hr
          go_wp2_with fail
          refine (has_any _ _ n R HR.out a b).mono ?_
          rintro e w1 ⟨rfl, y1⟩
          rw [HQ.out]
          cases hq : R a b with
          | false =>
            have HN := Lib.hid (rowP_no hq)
            clear hq
            go_wp2_with fail
            go_roundw
            case rel => exact ⟨b + 1, by omega, by go_num, by rw [HN.out]; exact H2.out.1.ext y1, H2.out.2.1.trans y1, H2.out.2.2⟩
            case measure => simp [intOf]; omega
          | true =>
            have HN := Lib.hid (rowP_yes hq)
            have hlen := HLEN.out a b hlt hbl
            clear hq
            go_wp2_with (at_builtin; go_loud (refine wpList_app IP rfl (.tmp 24) (.tmp 28) rfl ((H2.out.1.ext y1).ext (Mod.alloc (Mod.refl _ _) _)) (built_sl (n := 1) (g := w1.heap.size) (e := 32) (cs := #[.int .i64 (a : Int), .int .i64 (b : Int)]) (by simp only [heap_alloc_if, if_true]) rfl (by simp only [maxLen]; omega)) (one2i _ _) (by simp [Act.eval]) (by simp [Act.eval]) (by omega) (by simp only [maxLen]; omega) ?_); intro lv' w2 ol2 gr2 fr2 nn2; have HH := Lib.hid (And.intro ol2 (And.intro gr2 fr2)); clear ol2 gr2 fr2 nn2)
            go_roundw
            case rel =>
              obtain ⟨ol2, gr2, fr2⟩ := HH.out
              have M2 : Mod (fun q => u3.ownBlock = some q) w1 w2 := Mod.grown (Mod.alloc (Mod.refl _ _) _) gr2 (fun q h => .inl h)
              obtain ⟨p1, p2, p3⟩ := pairs_more (H2.out.2.1.trans y1) H2.out.2.2 ol2 M2 (fun q hq => by
                rcases fr2 q hq with h | h
                · exact .inl h
                · simp only [World.size_alloc] at h; exact .inr (by omega))
              exact ⟨b + 1, by omega, by go_num, by rw [HN.out, ← List.append_assoc]; exact p1, p2, p3⟩
            case measure => simp [intOf]; omega
        · have hbl' : ¬ (b : Int) < (n : Int) := by omega
          have HB : Hid (b = n) := Lib.hid (by omega)
          have H2 := Lib.hid (And.intro ho (And.intro x hf))
          clear ho x hf
          go_wp2_with fail
          go_roundw
          case rel => exact ⟨a + 1, by omega, by go_num, by have hb := HB.out; have h := H2.out.1; rw [hb] at h; rw [listP_succ]; exact h, H2.out.2.1, H2.out.2.2⟩
          case measure => simp [intOf]; omega
    · have hlt' : ¬ (a : Int) < (n : Int) := by omega
      have HA : Hid (a = n) := Lib.hid (by omega)
      have H := Lib.hid (And.intro ho (And.intro x hf))
      clear ho x hf
      go_wp2_with fail
      go_ret
      exact ⟨_, rfl, by have ha := HA.out; have h := H.out.1; rw [ha] at h; exact h, H.out.2.1, H.out.2.2⟩
end Go.Proofs.Ytkibdabbjbcboaa
