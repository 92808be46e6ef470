/-
  The contracts of block.New and Make. No condition.
-/
import Derived.Test.YtnnciakdeoopaaaBlkAt
import Derived.RegionTactic
import Derived.BigRegion
import Derived.Deep.DeepCutAuto
import Derived.Deep.RegionLaw
namespace Go.Proofs.Ytnnciakdeoopaaa
open Go.Ren Go.RowKit

/-- A row of noughts whose first k cells are already -1. -/
def fillTo (n k : Nat) : List Value := (List.range n).map fun j => if j < k then iv (-1) else iv 0
theorem fillTo_0 (n : Nat) : fillTo n 0 = List.replicate n (.int .i64 0) := by
  apply List.ext_getElem?; intro j
  by_cases h : j < n <;> simp [fillTo, h, iv]
theorem fillTo_n (n : Nat) : fillTo n n = (List.replicate n (-1)).map iv := by
  apply List.ext_getElem?; intro j
  by_cases h : j < n <;> simp [fillTo, h]
theorem fillTo_get {n k j : Nat} (h : k ≤ j) (hj : j < n) : (fillTo n k)[j]? = some (iv 0) := by simp [fillTo, hj, show ¬ j < k by omega]
theorem fillTo_set (n k : Nat) : (fillTo n k).set k (iv (-1)) = fillTo n (k + 1) := by
  apply List.ext_getElem?; intro j
  rw [List.getElem?_set]
  by_cases e : k = j
  · subst e
    by_cases h : k < n <;> simp [fillTo, h]
  · by_cases h : j < n
    · by_cases h2 : j < k
      · simp [fillTo, h, e, h2, show j < k + 1 by omega]
      · simp [fillTo, h, e, h2, show ¬ j < k + 1 by omega]
    · simp [fillTo, h, e]

theorem bok_nil : BOk [] := ⟨by simp, fun i h => by simp at h, fun i h => by simp at h, fun i h => by simp at h⟩
theorem new_any (w : World) : Calls Try.prog 19 #[] w fun e w' => ∃ pb S, e = .returned (.pointer (some ⟨pb, 0, none⟩)) ∧ BlocksAt w' (.pointer (some ⟨pb, 0, none⟩)) [] S ∧ Ext w w' ∧ ∀ k, S k → w.heap.size ≤ k := by
  go_enter Try.func19, Try.ntmps19
  go_wp2
  go_ret
  refine ⟨_, BlocksFp w.heap.size (.slice none 0 0) (fun _ => .slice none 0 0) (fun _ => .slice none 0 0) 0, rfl, ⟨_, _, _, _, rfl, ⟨heap_alloc_new _ _, Own.nil _ _ _, fun i h => by simp at h, fun i h => by simp at h, fun i j k h => by simp at h, fun i j k h => by simp at h, bok_nil⟩, fun k => Iff.rfl⟩, (Mod.refl _ _).alloc _, fun k hk => ?_⟩
  rcases hk with rfl | hk | ⟨i, hi, _⟩
  · exact Nat.le_refl _
  · cases hk
  · omega

def upd (f : Nat → Value) (n : Nat) (v : Value) : Nat → Value := fun i => if i = n then v else f i
theorem upd_same (f : Nat → Value) (n : Nat) (v : Value) : upd f n v n = v := by simp [upd]
theorem upd_lt {f : Nat → Value} {n i : Nat} {v : Value} (h : i < n) : upd f n v i = f i := by simp [upd, show i ≠ n by omega]
theorem blk_snoc_lt {m : List Blk} {B : Blk} {i : Nat} (h : i < m.length) : blk (m ++ [B]) i = blk m i := by simp [blk, List.getElem?_append_left h]
theorem blk_snoc {m : List Blk} {B : Blk} : blk (m ++ [B]) m.length = B := by simp [blk]

/-- What one more block does to the blocks in memory. -/
theorem blocks_push {w wr w2 : World} {pb : Nat} {lv lv' vb vy : Value} {V Y : Nat → Value} {m : List Blk} {B : Blk} (hin : BlocksIn w pb lv V Y m) (x : Ext w wr) (M2 : Mod (fun q => lv.ownBlock = some q) wr w2)
    (ol : Own w2 93 2 lv' (m.length + 1) (flat 2 m.length (fun i j => if j = 0 then V i else Y i) ++ [vb, vy])) (fr : ∀ k, lv'.ownBlock = some k → lv.ownBlock = some k ∨ wr.heap.size ≤ k)
    (ob : Own wr 5 1 vb B.b.length (B.b.map bv)) (oy : Own wr 3 1 vy B.y.length (B.y.map iv)) (nb : ∀ k, vb.ownBlock = some k → w.heap.size ≤ k) (ny : ∀ k, vy.ownBlock = some k → w.heap.size ≤ k)
    (h1 : B.y.length = B.b.length) (h2 : B.b.length ≤ 256) (h3 : ∀ x ∈ B.y, I64 x) (hc : m.length < 16) :
    BlocksIn (w2.setCell ⟨pb, 0, none⟩ lv') pb lv' (upd V m.length vb) (upd Y m.length vy) (m ++ [B]) ∧ Mod (BlocksFp pb lv V Y m.length) w (w2.setCell ⟨pb, 0, none⟩ lv') ∧
      ∀ k, BlocksFp pb lv' (upd V m.length vb) (upd Y m.length vy) (m ++ [B]).length k → BlocksFp pb lv V Y m.length k ∨ w.heap.size ≤ k := by
  have R0 := hin.row.ext x
  have B0 := x.blk hin.box
  have hpl : lv.ownBlock ≠ some pb := fun e => R0.apart_obj B0 (by decide) e
  have C0 := M2.blk B0 hpl
  have hpl' : lv'.ownBlock ≠ some pb := fun e => ol.apart_obj C0 (by decide) e
  have Ms : Mod (fun q => q = pb) w2 (w2.setCell ⟨pb, 0, none⟩ lv') := Mod.setCell (F := fun q => q = pb) (Mod.refl _ _) (.inl rfl) _
  have kb : ∀ {e : TypeId} {v : Value} {n : Nat} {xs : List Value}, e ≠ 93 → e ≠ 91 → Own wr e 1 v n xs → Own (w2.setCell ⟨pb, 0, none⟩ lv') e 1 v n xs := fun {e v n xs} he he2 ho =>
    have ho2 := ho.mod M2 (fun k hk hl => ho.apart R0 he hk hl)
    ho2.mod Ms (fun k hk hl => by subst hl; exact ho2.apart_obj C0 he2 hk)
  have hlen : (m ++ [B]).length = m.length + 1 := by simp
  refine ⟨⟨one_setCell C0, ?_, ?_, ?_, ?_, ?_, ?_⟩, ?_, ?_⟩
  · have e : flat 2 (m ++ [B]).length (fun i j => if j = 0 then upd V m.length vb i else upd Y m.length vy i) = flat 2 m.length (fun i j => if j = 0 then V i else Y i) ++ [vb, vy] := by
      rw [hlen, flat_succ _ _ _ (by decide)]
      congr 1
      · refine flat_congr fun i j hi hj => ?_
        rw [upd_lt hi, upd_lt hi]
      · simp [List.range_succ, upd_same]
    rw [e, hlen]
    exact ol.mod Ms (fun k hk hl => by subst hl; exact hpl' hk)
  · intro i hi
    rw [hlen] at hi
    by_cases e : i = m.length
    · subst e; rw [upd_same, blk_snoc]; exact kb (by decide) (by decide) ob
    · have hi' : i < m.length := by omega
      rw [upd_lt hi', blk_snoc_lt hi']; exact kb (by decide) (by decide) ((hin.bs i hi').ext x)
  · intro i hi
    rw [hlen] at hi
    by_cases e : i = m.length
    · subst e; rw [upd_same, blk_snoc]; exact kb (by decide) (by decide) oy
    · have hi' : i < m.length := by omega
      rw [upd_lt hi', blk_snoc_lt hi']; exact kb (by decide) (by decide) ((hin.ys i hi').ext x)
  · intro i j k hi hj h4 h5
    rw [hlen] at hi hj
    by_cases e : i = m.length <;> by_cases e' : j = m.length
    · omega
    · subst e; have hj' : j < m.length := by omega
      rw [upd_same] at h4; rw [upd_lt hj'] at h5
      have := nb k h4; have := (hin.bs j hj').lt h5; omega
    · subst e'; have hi' : i < m.length := by omega
      rw [upd_same] at h5; rw [upd_lt hi'] at h4
      have := nb k h5; have := (hin.bs i hi').lt h4; omega
    · have hi' : i < m.length := by omega
      have hj' : j < m.length := by omega
      rw [upd_lt hi'] at h4; rw [upd_lt hj'] at h5; exact hin.dV i j k hi' hj' h4 h5
  · intro i j k hi hj h4 h5
    rw [hlen] at hi hj
    by_cases e : i = m.length <;> by_cases e' : j = m.length
    · omega
    · subst e; have hj' : j < m.length := by omega
      rw [upd_same] at h4; rw [upd_lt hj'] at h5
      have := ny k h4; have := (hin.ys j hj').lt h5; omega
    · subst e'; have hi' : i < m.length := by omega
      rw [upd_same] at h5; rw [upd_lt hi'] at h4
      have := ny k h5; have := (hin.ys i hi').lt h4; omega
    · have hi' : i < m.length := by omega
      have hj' : j < m.length := by omega
      rw [upd_lt hi'] at h4; rw [upd_lt hj'] at h5; exact hin.dY i j k hi' hj' h4 h5
  · refine ⟨by rw [hlen]; omega, ?_, ?_, ?_⟩
    all_goals
      intro i hi
      rw [hlen] at hi
      by_cases e : i = m.length
      · subst e; rw [blk_snoc]; assumption
      · have hi' : i < m.length := by omega
        rw [blk_snoc_lt hi']; first | exact hin.ok.len i hi' | exact hin.ok.top i hi' | exact hin.ok.ok i hi'
  · exact ((x.mod (BlocksFp pb lv V Y m.length)).trans' M2 (fun i hi => .inl (.inr (.inl hi)))).trans' Ms (fun i hi => .inl (.inl hi))
  · intro k hk
    rcases hk with rfl | hk | ⟨i, hi, hk⟩
    · exact .inl (.inl rfl)
    · rcases fr k hk with h | h
      · exact .inl (.inr (.inl h))
      · exact .inr (Nat.le_trans x.size h)
    · rw [hlen] at hi
      by_cases e : i = m.length
      · subst e; rw [upd_same, upd_same] at hk; exact .inr (hk.elim (nb k) (ny k))
      · have hi' : i < m.length := by omega
        rw [upd_lt hi', upd_lt hi'] at hk; exact .inl (.inr (.inr ⟨i, hi', hk⟩))

theorem make_any (w : World) (p : Value) (m : List Blk) (S : Nat → Prop) (h : BlocksAt w p m S) (size : Int) :
    Calls Try.prog 20 #[p, .int .i64 size] w fun e w' => e = .returned (.tuple #[.int .i64 (bmakeN m size), .int .i64 (bmakeE m size)]) ∧
      ∃ S', BlocksAt w' p (bmake m size) S' ∧ Mod S w w' ∧ ∀ k, S' k → S k ∨ w.heap.size ≤ k := by
  by_cases h0 : bmakeE m size = 0
  case neg =>
    have en : bmakeN m size = 0 := by unfold bmakeN; rw [if_neg h0]
    have eb : bmake m size = m := by unfold bmake; rw [if_neg h0]
    rw [en, eb]
    have h00 := h0
    clear en eb h0
    obtain ⟨pb, lv, V, Y, rfl, hin, hS0⟩ := h.ex
    clear hS0
    have c0 := cell_of_one hin.box
    have l0 := hin.row.sl.run_len (P := Try.prog) I1.und 3
    clear hin
    unfold bmakeE
    by_cases h1 : size < 0
    · rw [if_pos (by omega)]
      go_enter Try.func20, Try.ntmps20
      go_wp2
      go_ret2
      exact ⟨rfl, S, h, Mod.refl _ _, fun k hk => .inl hk⟩
    by_cases h2 : 256 < size
    · rw [if_pos (by omega)]
      go_enter Try.func20, Try.ntmps20
      go_wp2
      go_ret2
      exact ⟨rfl, S, h, Mod.refl _ _, fun k hk => .inl hk⟩
    rw [if_neg (by omega)]
    by_cases h3 : 16 ≤ m.length
    · have h3' : (16 : Int) ≤ (m.length : Int) := by omega
      rw [if_pos h3]
      go_enter Try.func20, Try.ntmps20
      go_wp2
      go_ret2
      exact ⟨rfl, S, h, Mod.refl _ _, fun k hk => .inl hk⟩
    · exact absurd (by unfold bmakeE; rw [if_neg (by omega), if_neg h3]) h00
  case pos =>
    obtain ⟨pb, lv, V, Y, rfl, hin, hS⟩ := h.ex
    have c0 := cell_of_one hin.box
    have f0 := free_of_one hin.box
    have l0 := hin.row.sl.run_len (P := Try.prog) I1.und 3
    have hr : 0 ≤ size ∧ size ≤ 256 ∧ m.length < 16 := by unfold bmakeE at h0; split at h0; omega; split at h0; omega; omega
    obtain ⟨r1, r2, r3⟩ := hr
    obtain ⟨n, rfl⟩ := Int.eq_ofNat_of_zero_le r1
    have m1 := run_make_row' (P := Try.prog) 27 5 (.int .u8 0) 1 IB.und IB.info rfl .i64 .i64 n (by omega) (by omega)
    have m2 := run_make_row' (P := Try.prog) 26 3 (.int .i64 0) 8 II.und II.info rfl .i64 .i64 n (by omega) (by omega)
    have r4 : ¬ (16 : Int) ≤ (m.length : Int) := by omega
    clear h0
    go_enter Try.func20, Try.ntmps20
    go_upto_region 5 with fail
    go_cut [6, 23, 25] (fun s6 s23 s25 wx => ∃ g gb gy : Nat, s6 = .pointer (some ⟨g, 0, none⟩) ∧ s23 = .slice (some ⟨gb, 0, none⟩) n n ∧ s25 = .slice (some ⟨gy, 0, none⟩) n n ∧ Ext w wx ∧ w.heap.size ≤ g ∧ w.heap.size ≤ gb ∧ w.heap.size ≤ gy ∧
      wx.heap[g]? = some (.cells #[.slice (some ⟨gb, 0, none⟩) n n, .slice (some ⟨gy, 0, none⟩) n n] 93 (0, 0)) ∧
      wx.heap[gb]? = some (.cells (madeCells #[.int .u8 0] n) 5 (0, 0)) ∧ wx.heap[gy]? = some (.cells (madeCells #[.int .i64 0] n) 3 (0, 0)))
    case first =>
      go_region
      all_goals (go_wp2_with fail; go_meet; refine ⟨_, _, _, rfl, rfl, rfl, by repeat (first | exact Mod.refl _ _ | apply Mod.drew | apply Mod.alloc), by (try simp only [World.size_alloc, World.size_drew]); omega, by (try simp only [World.size_alloc, World.size_drew]); omega, by (try simp only [World.size_alloc, World.size_drew]); omega, ?_, ?_, ?_⟩; all_goals (simp only [heap_alloc_if, heap_drew, World.size_alloc]; repeat (first | rfl | rw [if_pos (by omega)] | rw [if_neg (by omega)])))
    case rest =>
      obtain ⟨g, gb, gy, rfl, rfl, rfl, x1, z1, z2, z3, b1, b2, b3⟩ := hcut
      have t0 : wc.cell? ⟨g, 0, none⟩ = some (.slice (some ⟨gb, 0, none⟩) n n) := by simp [World.cell?, b1]
      have t1 : wc.cell? ⟨g, 1, none⟩ = some (.slice (some ⟨gy, 0, none⟩) n n) := by simp [World.cell?, b1]
      have oy : Own wc 3 1 (.slice (some ⟨gy, 0, none⟩) n n) n (fillTo n 0) := by rw [fillTo_0]; exact Own.made_at b3 (by simp only [maxLen]; omega)
      have HB := Lib.hid (And.intro b1 b2)
      clear b1 b2 b3 m1 m2 c0 l0
      go_wp2
      go_loopw [30] (fun s30 wr => ∃ k : Nat, k ≤ n ∧ s30 = .int .i64 k ∧ Mod (fun b => b = gy) wc wr ∧ Own wr 3 1 (.slice (some ⟨gy, 0, none⟩) n n) n (fillTo n k)) (fun i _ => n - (intOf i).toNat)
      case atStart => exact ⟨0, Nat.zero_le _, rfl, Mod.refl _ _, oy⟩
      case round =>
        obtain ⟨k, hk, rfl, xr, or⟩ := hrel
        have hgy : ¬ g = gy := fun e => by
          obtain ⟨cur, hh⟩ := oy.ty rfl
          have := HB.out.1
          rw [e, hh] at this
          simp at this
        have hgb : ¬ gb = gy := fun e => by
          obtain ⟨cur, hh⟩ := oy.ty rfl
          have := HB.out.2
          rw [e, hh] at this
          simp at this
        have t1r : wr.cell? ⟨g, 1, none⟩ = some (.slice (some ⟨gy, 0, none⟩) n n) := xr.cell t1 hgy
        by_cases hlt : k < n
        · have hlt' : (k : Int) < (n : Int) := by omega
          have fr : wr.frozen? ⟨gy, k, none⟩ = false := World.ownsRow.frozenAt or k
          have cr : wr.cell? ⟨gy, k, none⟩ = some (iv 0) := by rw [World.ownsRow.cellAt or k (by omega), fillTo_get (Nat.le_refl _) hlt]
          have os := (World.ownsRow.stored or k (iv (-1))).1
          rw [fillTo_set] at os
          have xs : Mod (fun b => b = gy) wc (wr.setCell ⟨gy, k, none⟩ (iv (-1))) := xr.setCell (.inl rfl) _
          have OS := Lib.hid (And.intro os xs)
          clear os xs oy t1 t0
          go_wp2
          go_roundw
          case rel => exact ⟨k + 1, by omega, by go_num, OS.out.2, OS.out.1⟩
          case measure => simp [intOf]; omega
        · have hlt' : ¬ (k : Int) < (n : Int) := by omega
          obtain rfl : k = n := by omega
          have x2 : Ext w wr := x1.trans' xr (by rintro i rfl; exact .inr z3)
          have B0 := x2.blk hin.box
          have B1 := cell_of_one B0
          have B2 := free_of_one B0
          have G0 : wr.heap[g]? = some (.cells #[.slice (some ⟨gb, 0, none⟩) k k, .slice (some ⟨gy, 0, none⟩) k k] 93 (0, 0)) := xr.blk HB.out.1 hgy
          have G1 : wr.cell? ⟨g, 0, none⟩ = some (.slice (some ⟨gb, 0, none⟩) k k) := by simp [World.cell?, G0]
          have R0 := hin.row.ext x2
          have l0 := hin.row.sl.run_len (P := Try.prog) I1.und 3
          have X2 := Lib.hid (And.intro x2 (And.intro B0 G0))
          clear x2 B0 G0 t1 t0 oy
          go_wp2
          have one2 : ∀ x ∈ [Value.slice (some ⟨gb, 0, none⟩) k k, Value.slice (some ⟨gy, 0, none⟩) k k], x.oneCell' = true := by intro x hx; simp at hx; rcases hx with rfl | rfl <;> rfl
          have P1 : pb < wr.heap.size := lt_of_block X2.out.2.1
          have hpl : lv.ownBlock ≠ some pb := fun e => R0.apart_obj X2.out.2.1 (by decide) e
          go_region_law (refine step_app I1 rfl (.tmp 42) (.tmp 44) rfl (R0.ext ?_) (built_sl (n := 1) (g := wr.heap.size) (e := 93) (cs := #[.slice (some ⟨gb, 0, none⟩) k k, .slice (some ⟨gy, 0, none⟩) k k]) ?_ rfl (by simp only [maxLen]; omega)) one2 ?_ ?_ (by omega) (by simp only [maxLen]; omega) ?_; (repeat (first | exact Mod.refl _ _ | apply Mod.drew | apply Mod.alloc)); (simp only [heap_alloc_if, heap_drew, if_true]); (simp [Act.eval]); (simp [Act.eval]); intro lv' w2 ol2 gr2 fr2 nn2; obtain ⟨la, lc, hlv, _⟩ := ol2.sl.shape; subst hlv; have M2 : Mod (fun q => lv.ownBlock = some q) wr w2 := Mod.grown (by repeat (first | exact Mod.refl _ _ | apply Mod.drew | apply Mod.alloc)) gr2 (fun q h => .inl h); have c2 := cell_of_one (M2.blk X2.out.2.1 hpl); have f2 := free_of_one (M2.blk X2.out.2.1 hpl))
          all_goals (have F2 : ∀ q, (Value.slice la (m.length + 1) lc).ownBlock = some q → lv.ownBlock = some q ∨ wr.heap.size ≤ q := fun q hq => (fr2 q hq).imp id (fun h => by (try simp only [World.size_alloc, World.size_drew] at h); omega))
          all_goals (have P := blocks_push (B := newBlk k) hin X2.out.1 M2 ol2 F2 (by have := (Own.made_at (z := .int .u8 0) (xr.blk HB.out.2 hgb) (by simp only [maxLen]; omega)); simpa [newBlk, bv] using this) (by have h := or; rw [fillTo_n] at h; simpa [newBlk] using h) (by intro q hq; simp [Value.ownBlock] at hq; omega) (by intro q hq; simp [Value.ownBlock] at hq; omega) (by simp [newBlk]) (by simp [newBlk]; omega) (by intro x hx; simp [newBlk] at hx; simp [I64, hx.2]) r3)
          all_goals (have HP := Lib.hid P; clear P R0 gr2 fr2 F2 M2 ol2)
          all_goals go_wp2
          all_goals go_ret2
          all_goals
            have em : bmakeE m (k : Int) = 0 := by unfold bmakeE; rw [if_neg (by omega), if_neg (by omega)]
            have en : bmakeN m (k : Int) = (m.length : Int) := by unfold bmakeN; rw [if_pos em]
            have eb : bmake m (k : Int) = m ++ [newBlk k] := by unfold bmake; rw [if_pos em, Int.toNat_natCast]
            obtain ⟨P1, P2, P3⟩ := HP.out
            exact ⟨by rw [em, en]; rfl, _, ⟨pb, _, _, _, rfl, by rw [eb]; exact P1, fun q => by rw [eb]⟩, P2.weak (fun q hq => .inl ((hS q).2 hq)), fun q hq => (P3 q hq).imp (hS q).2 id⟩
end Go.Proofs.Ytnnciakdeoopaaa
