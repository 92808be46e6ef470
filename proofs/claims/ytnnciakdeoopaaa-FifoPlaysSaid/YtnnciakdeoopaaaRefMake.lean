/-
  The contract of (*renref18.Blocks).Make: as the program's own. No condition.
-/
import Derived.Test.YtnnciakdeoopaaaRefAt
import Derived.Deep.RegionLaw
namespace Go.Proofs.Ytnnciakdeoopaaa
open Go.Ren Go.RowKit
set_option linter.unusedVariables false

theorem two_set {w : World} {k : Nat} {a b : Value} {t : TypeId} (h : w.heap[k]? = some (.cells #[a, b] t (0, 0))) (u : Value) : (w.setCell ⟨k, 0, none⟩ u).heap[k]? = some (.cells #[u, b] t (0, 0)) := by
  simp [World.setCell, Array.getElem?_modify, h]
theorem two_set1 {w : World} {k : Nat} {a b : Value} {t : TypeId} (h : w.heap[k]? = some (.cells #[a, b] t (0, 0))) (u : Value) : (w.setCell ⟨k, 1, none⟩ u).heap[k]? = some (.cells #[a, u] t (0, 0)) := by
  simp [World.setCell, Array.getElem?_modify, h]
theorem two_free {w : World} {k : Nat} {a b : Value} {t : TypeId} (h : w.heap[k]? = some (.cells #[a, b] t (0, 0))) (j : Nat) : w.frozen? ⟨k, j, none⟩ = false := by
  simp [World.frozen?, h]
theorem push_flat (n : Nat) (V : Nat → Value) (u : Value) : flat 1 (n + 1) (fun i _ => upd V n u i) = flat 1 n (fun i _ => V i) ++ [u] := by
  rw [flat_succ _ _ _ (by decide)]
  have e1 : flat 1 n (fun i _ => upd V n u i) = flat 1 n (fun i _ => V i) := flat_congr fun i j hi _ => upd_lt hi
  rw [e1]; simp [upd_same]

/-- What one more block does to the document's blocks in memory. -/
theorem ref_push {w wr w2 w4 : World} {px : Nat} {lb ly lb' ly' vb vy : Value} {V Y : Nat → Value} {m : List Blk} {B : Blk} (hin : RefIn w px lb ly V Y m) (x : Ext w wr)
    (M2 : Mod (fun q => lb.ownBlock = some q) wr w2) (ol : Own w2 27 1 lb' (m.length + 1) (flat 1 m.length (fun i _ => V i) ++ [vb])) (fr : ∀ k, lb'.ownBlock = some k → lb.ownBlock = some k ∨ wr.heap.size ≤ k)
    (ob : Own w2 5 1 vb B.b.length (B.b.map bv)) (oy : Own wr 3 1 vy B.y.length (B.y.map iv)) (nb : ∀ k, vb.ownBlock = some k → wr.heap.size ≤ k) (ny : ∀ k, vy.ownBlock = some k → w.heap.size ≤ k)
    (M4 : Mod (fun q => ly.ownBlock = some q) (w2.setCell ⟨px, 0, none⟩ lb') w4) (oy4 : Own w4 26 1 ly' (m.length + 1) (flat 1 m.length (fun i _ => Y i) ++ [vy])) (fr4 : ∀ k, ly'.ownBlock = some k → ly.ownBlock = some k ∨ wr.heap.size ≤ k)
    (h1 : B.y.length = B.b.length) (h2 : B.b.length ≤ 256) (h3 : ∀ x ∈ B.y, I64 x) (hc : m.length < 16) :
    RefIn (w4.setCell ⟨px, 1, none⟩ ly') px lb' ly' (upd V m.length vb) (upd Y m.length vy) (m ++ [B]) ∧ Mod (RefFp px lb ly V Y m.length) w (w4.setCell ⟨px, 1, none⟩ ly') ∧
      ∀ k, RefFp px lb' ly' (upd V m.length vb) (upd Y m.length vy) (m ++ [B]).length k → RefFp px lb ly V Y m.length k ∨ w.heap.size ≤ k := by
  have R0 := hin.rb.ext x
  have Y0 := hin.ry.ext x
  have B0 := x.blk hin.box
  have B2 := M2.blk B0 (fun e => R0.apart_obj B0 (by decide) e)
  have B3 := two_set B2 lb'
  have Y2 := Y0.mod M2 (fun k hk hl => Y0.apart R0 (by decide) hk hl)
  have M3 : Mod (fun q => q = px) w2 (w2.setCell ⟨px, 0, none⟩ lb') := Mod.setCell (F := fun q => q = px) (Mod.refl _ _) (.inl rfl) _
  have Y3 := Y2.mod M3 (fun k hk hl => by subst hl; exact Y2.apart_obj B2 (by decide) hk)
  have B4 := M4.blk B3 (fun e => Y3.apart_obj B3 (by decide) e)
  have B5 := two_set1 B4 ly'
  have M5 : Mod (fun q => q = px) w4 (w4.setCell ⟨px, 1, none⟩ ly') := Mod.setCell (F := fun q => q = px) (Mod.refl _ _) (.inl rfl) _
  have k35 : ∀ {e : TypeId} {v : Value} {n : Nat} {xs : List Value}, e ≠ 26 → e ≠ 54 → Own w2 e 1 v n xs → Own (w4.setCell ⟨px, 1, none⟩ ly') e 1 v n xs := fun {e v n xs} he he2 ho =>
    have ho3 := ho.mod M3 (fun k hk hl => by subst hl; exact ho.apart_obj B2 he2 hk)
    have ho4 := ho3.mod M4 (fun k hk hl => ho3.apart Y3 he hk hl)
    ho4.mod M5 (fun k hk hl => by subst hl; exact ho4.apart_obj B4 he2 hk)
  have k05 : ∀ {e : TypeId} {v : Value} {n : Nat} {xs : List Value}, e ≠ 27 → e ≠ 26 → e ≠ 54 → Own wr e 1 v n xs → Own (w4.setCell ⟨px, 1, none⟩ ly') e 1 v n xs := fun {e v n xs} he0 he he2 ho =>
    k35 he he2 (ho.mod M2 (fun k hk hl => ho.apart R0 he0 hk hl))
  have hlen : (m ++ [B]).length = m.length + 1 := by simp
  refine ⟨⟨B5, ?_, ?_, ?_, ?_, ?_, ?_, ?_⟩, ?_, ?_⟩
  · rw [hlen, push_flat]; exact k35 (by decide) (by decide) ol
  · rw [hlen, push_flat]; exact oy4.mod M5 (fun k hk hl => by subst hl; exact oy4.apart_obj B4 (by decide) hk)
  · intro i hi
    rw [hlen] at hi
    by_cases e : i = m.length
    · subst e; rw [blk_snoc, upd_same]; exact k35 (by decide) (by decide) ob
    · have hi' : i < m.length := by omega
      rw [blk_snoc_lt hi', upd_lt hi']; exact k05 (by decide) (by decide) (by decide) ((hin.bs i hi').ext x)
  · intro i hi
    rw [hlen] at hi
    by_cases e : i = m.length
    · subst e; rw [blk_snoc, upd_same]; exact k05 (by decide) (by decide) (by decide) oy
    · have hi' : i < m.length := by omega
      rw [blk_snoc_lt hi', upd_lt hi']; exact k05 (by decide) (by decide) (by decide) ((hin.ys i hi').ext x)
  · intro i j k hi hj h4 h5
    rw [hlen] at hi hj
    by_cases e : i = m.length <;> by_cases e' : j = m.length
    · omega
    · subst e; have hj' : j < m.length := by omega
      rw [upd_same] at h4; rw [upd_lt hj'] at h5
      have := nb k h4; have := (hin.bs j hj').lt h5; have := x.size; omega
    · subst e'; have hi' : i < m.length := by omega
      rw [upd_same] at h5; rw [upd_lt hi'] at h4
      have := nb k h5; have := (hin.bs i hi').lt h4; have := x.size; omega
    · have hi' : i < m.length := by omega
      have hj' : j < m.length := by omega
      rw [upd_lt hi'] at h4; rw [upd_lt hj'] at h5; exact hin.dV i j k hi' hj' h4 h5
  · intro i j k hi hj h4 h5
    rw [hlen] at hi hj
    by_cases e : i = m.length <;> by_cases e' : j = m.length
    · omega
    · subst e; have hj' : j < m.length := by omega
      rw [upd_same] at h4; rw [upd_lt hj'] at h5
      have := ny k h4; have := (hin.ys j hj').lt h5; omega
    · subst e'; have hi' : i < m.length := by omega
      rw [upd_same] at h5; rw [upd_lt hi'] at h4
      have := ny k h5; have := (hin.ys i hi').lt h4; omega
    · have hi' : i < m.length := by omega
      have hj' : j < m.length := by omega
      rw [upd_lt hi'] at h4; rw [upd_lt hj'] at h5; exact hin.dY i j k hi' hj' h4 h5
  · refine ⟨by rw [hlen]; omega, ?_, ?_, ?_⟩
    all_goals
      intro i hi
      rw [hlen] at hi
      by_cases e : i = m.length
      · subst e; rw [blk_snoc]; assumption
      · have hi' : i < m.length := by omega
        rw [blk_snoc_lt hi']; first | exact hin.ok.len i hi' | exact hin.ok.top i hi' | exact hin.ok.ok i hi'
  · exact ((((x.mod (RefFp px lb ly V Y m.length)).trans' M2 (fun i hi => .inl (.inr (.inl hi)))).trans' M3 (fun i hi => .inl (.inl hi))).trans' M4 (fun i hi => .inl (.inr (.inr (.inl hi))))).trans' M5 (fun i hi => .inl (.inl hi))
  · intro k hk
    rcases hk with rfl | hk | hk | ⟨i, hi, hk⟩
    · exact .inl (.inl rfl)
    · exact (fr k hk).imp (fun h => .inr (.inl h)) (fun h => Nat.le_trans x.size h)
    · exact (fr4 k hk).imp (fun h => .inr (.inr (.inl h))) (fun h => Nat.le_trans x.size h)
    · rw [hlen] at hi
      by_cases e : i = m.length
      · subst e; rw [upd_same, upd_same] at hk; exact .inr (hk.elim (fun h => Nat.le_trans x.size (nb k h)) (ny k))
      · have hi' : i < m.length := by omega
        rw [upd_lt hi', upd_lt hi'] at hk; exact .inl (.inr (.inr (.inr ⟨i, hi', hk⟩)))

set_option maxRecDepth 100000 in
theorem rmake_any (w : World) (p : Value) (m : List Blk) (S : Nat → Prop) (h : RefAt w p m S) (size : Int) :
    Calls Try.prog 27 #[p, .int .i64 size] w fun e w' => e = .returned (.tuple #[.int .i64 (bmakeN m size), .int .i64 (bmakeE m size)]) ∧
      ∃ S', RefAt w' p (bmake m size) S' ∧ Mod S w w' ∧ ∀ k, S' k → S k ∨ w.heap.size ≤ k := by
  by_cases h0 : bmakeE m size = 0
  case neg =>
    have en : bmakeN m size = 0 := by unfold bmakeN; rw [if_neg h0]
    have eb : bmake m size = m := by unfold bmake; rw [if_neg h0]
    rw [en, eb]
    have h00 := h0
    clear en eb h0
    obtain ⟨px, lb, ly, V, Y, rfl, hin, hS0⟩ := h.ex
    clear hS0
    have c0 := hin.c0
    have l0 := hin.rb.sl.run_len (P := Try.prog) IBB.und 3
    clear hin
    unfold bmakeE
    by_cases h1 : size < 0
    · rw [if_pos (by omega)]
      go_enter Try.func27, Try.ntmps27
      go_wp2
      go_ret2
      exact ⟨rfl, S, h, Mod.refl _ _, fun k hk => .inl hk⟩
    by_cases h2 : 256 < size
    · rw [if_pos (by omega)]
      go_enter Try.func27, Try.ntmps27
      go_wp2
      go_ret2
      exact ⟨rfl, S, h, Mod.refl _ _, fun k hk => .inl hk⟩
    rw [if_neg (by omega)]
    by_cases h3 : 16 ≤ m.length
    · have h3' : (16 : Int) ≤ (m.length : Int) := by omega
      rw [if_pos h3]
      go_enter Try.func27, Try.ntmps27
      go_wp2
      go_ret2
      exact ⟨rfl, S, h, Mod.refl _ _, fun k hk => .inl hk⟩
    · exact absurd (by unfold bmakeE; rw [if_neg (by omega), if_neg h3]) h00
  case pos =>
    obtain ⟨px, lb, ly, V, Y, rfl, hin, hS⟩ := h.ex
    have HS := Lib.hid hS
    clear hS h
    have c0 := hin.c0
    have l0 := hin.rb.sl.run_len (P := Try.prog) IBB.und 3
    have hr : 0 ≤ size ∧ size ≤ 256 ∧ m.length < 16 := by unfold bmakeE at h0; split at h0; omega; split at h0; omega; omega
    obtain ⟨r1, r2, r3⟩ := hr
    obtain ⟨n, rfl⟩ := Int.eq_ofNat_of_zero_le r1
    have m1 := run_make_row' (P := Try.prog) 27 5 (.int .u8 0) 1 IB.und IB.info rfl .i64 .i64 n (by omega) (by omega)
    have m2 := run_make_row' (P := Try.prog) 26 3 (.int .i64 0) 8 II.und II.info rfl .i64 .i64 n (by omega) (by omega)
    have r4 : ¬ (16 : Int) ≤ (m.length : Int) := by omega
    clear h0
    go_enter Try.func27, Try.ntmps27
    go_wp2_with fail
    obtain ⟨wc, hwc⟩ : ∃ wc, wc = w.alloc (.cells (madeCells #[.int .i64 0] n) 3) := ⟨_, rfl⟩
    have x1 : Ext w wc := by rw [hwc]; exact (Mod.refl _ _).alloc _
    have oy : Own wc 3 1 (.slice (some ⟨w.heap.size, 0, none⟩) n n) n (fillTo n 0) := by rw [fillTo_0]; exact Own.made_at (by rw [hwc]; simp only [heap_alloc_if, if_true]) (by simp only [maxLen]; omega)
    obtain ⟨gy, hgy⟩ : ∃ gy, gy = w.heap.size := ⟨_, rfl⟩
    rw [← hwc, ← hgy]
    rw [← hgy] at oy
    have HG := Lib.hid hgy
    clear hwc hgy
    go_loopw [7] (fun s7 wr => ∃ k : Nat, k ≤ n ∧ s7 = .int .i64 k ∧ Mod (fun b => b = gy) wc wr ∧ Own wr 3 1 (.slice (some ⟨gy, 0, none⟩) n n) n (fillTo n k)) (fun i _ => n - (intOf i).toNat)
    case atStart => exact ⟨0, Nat.zero_le _, rfl, Mod.refl _ _, oy⟩
    case round =>
      obtain ⟨k, hk, rfl, xr, or⟩ := hrel
      by_cases hlt : k < n
      · have hlt' : (k : Int) < (n : Int) := by omega
        have fr : wr.frozen? ⟨gy, k, none⟩ = false := World.ownsRow.frozenAt or k
        have cr : wr.cell? ⟨gy, k, none⟩ = some (iv 0) := by rw [World.ownsRow.cellAt or k (by omega), fillTo_get (Nat.le_refl _) hlt]
        have os := (World.ownsRow.stored or k (iv (-1))).1
        rw [fillTo_set] at os
        have xs : Mod (fun b => b = gy) wc (wr.setCell ⟨gy, k, none⟩ (iv (-1))) := xr.setCell (.inl rfl) _
        have OS := Lib.hid (And.intro os xs)
        have i0 := or.sl.run_idx (P := Try.prog) II.und II.size .i64 k hlt
        simp only [Nat.mul_one, at_own] at i0
        clear os xs oy m1 m2
        go_wp2_with fail
        go_roundw
        case rel => exact ⟨k + 1, by omega, by go_num, OS.out.2, OS.out.1⟩
        case measure => simp [intOf]; omega
      · have hlt' : ¬ (k : Int) < (n : Int) := by omega
        obtain rfl : k = n := by omega
        have x2 : Ext w wr := x1.trans' xr (by rintro i rfl; exact .inr (by have := HG.out; omega))
        have Ref1 := hin.to (fun q hq => x2.block q (hin.lt hq) (fun h => h))
        have C0 := Ref1.c0
        have C1 := Ref1.c1
        have l0 := hin.rb.sl.run_len (P := Try.prog) IBB.und 3
        have F0 := two_free Ref1.box
        have hpl : lb.ownBlock ≠ some px := fun e => Ref1.rb.apart_obj Ref1.box (by decide) e
        have R0 := Ref1.rb
        have X2 := Lib.hid (And.intro x2 Ref1)
        clear x2 Ref1 oy c0
        go_wp2_with fail
        have one1 : ∀ x ∈ [Value.slice (some ⟨wr.heap.size, 0, none⟩) k k], x.oneCell' = true := by intro x hx; simp at hx; subst hx; rfl
        have px_lt : px < wr.heap.size := lt_of_block X2.out.2.box
        go_region_law (refine step_app IBB rfl (.tmp 34) (.tmp 37) rfl (R0.ext ?_) (built_sl (n := 1) (g := wr.heap.size + 1) (e := 27) (cs := #[.slice (some ⟨wr.heap.size, 0, none⟩) k k]) ?_ rfl (by simp only [maxLen]; omega)) one1 ?_ ?_ (by omega) (by simp only [maxLen]; omega) ?_; (repeat (first | exact Mod.refl _ _ | apply Mod.drew | apply Mod.alloc)); (simp only [heap_alloc_if, heap_drew, World.size_alloc, if_true]); (simp [Act.eval]); (simp [Act.eval]); intro lv' w2 ol2 gr2 fr2 nn2; obtain ⟨la, lc, hlv, _⟩ := ol2.sl.shape; subst hlv; have M2 : Mod (fun q => lb.ownBlock = some q) wr w2 := Mod.grown (by repeat (first | exact Mod.refl _ _ | apply Mod.drew | apply Mod.alloc)) gr2 (fun q h => .inl h); have B2 := M2.blk X2.out.2.box hpl; have c2 : w2.cell? ⟨px, 0, none⟩ = some lb := (by simp [World.cell?, B2]); have f2 := two_free B2 0; have OB := Own.mod (Own.made_at (z := .int .u8 0) (e := 5) (g := wr.heap.size) (n := k) (by simp only [heap_alloc_if, heap_drew, World.size_alloc]; rw [if_neg (by omega), if_pos trivial]) (by simp only [maxLen]; omega)) (Mod.grown (F := fun q => lb.ownBlock = some q) (Mod.refl _ _) gr2 (fun q h => .inl h)) (fun q hq hl => by have h1 := R0.lt hl; have h2 : wr.heap.size = q := (by simpa [Value.ownBlock] using hq); omega))
        all_goals (have F2 : ∀ q, (Value.slice la (m.length + 1) lc).ownBlock = some q → lb.ownBlock = some q ∨ wr.heap.size ≤ q := fun q hq => (fr2 q hq).imp id (fun h => by (try simp only [World.size_alloc, World.size_drew] at h); omega))
        all_goals
          have B3 := two_set B2 (Value.slice la (m.length + 1) lc)
          have M3 : Mod (fun q => q = px) w2 (w2.setCell ⟨px, 0, none⟩ (Value.slice la (m.length + 1) lc)) := Mod.setCell (F := fun q => q = px) (Mod.refl _ _) (.inl rfl) _
          have Y0 := X2.out.2.ry
          have Y2 := Y0.mod M2 (fun k hk hl => Y0.apart R0 (by decide) hk hl)
          have Y3 := Y2.mod M3 (fun k hk hl => by subst hl; exact Y2.apart_obj B2 (by decide) hk)
          have hy3 : ly.ownBlock ≠ some px := fun e => Y3.apart_obj B3 (by decide) e
          obtain ⟨w3, hw3⟩ : ∃ w3, w3 = w2.setCell ⟨px, 0, none⟩ (Value.slice la (m.length + 1) lc) := ⟨_, rfl⟩
          have z3 : w3.heap.size = w2.heap.size := by rw [hw3]; simp [World.setCell]
          rw [← hw3] at B3 Y3 ⊢
          have c3 : w3.cell? ⟨px, 1, none⟩ = some ly := by simp [World.cell?, B3]
          have z2 : wr.heap.size ≤ w2.heap.size := M2.size
          have HP := Lib.hid (And.intro OB (And.intro F2 (And.intro M2 (And.intro ol2 hw3))))
          have B3h := Lib.hid B3
          clear OB F2 M2 ol2 gr2 fr2 B3 M3 Y0 Y2 hw3 c2 f2 F0 C0 C1 nn2 m1 m2
          have one2 : ∀ x ∈ [Value.slice (some ⟨gy, 0, none⟩) k k], x.oneCell' = true := by intro x hx; simp at hx; subst hx; rfl
          go_wp2_with (at_builtin; go_loud (refine wpList_app IYY rfl (.tmp 45) (.tmp 47) rfl (Y3.ext (Mod.alloc (Mod.refl _ _) _)) (built_sl (n := 1) (g := w3.heap.size) (e := 26) (cs := #[Value.slice (some ⟨gy, 0, none⟩) k k]) (by simp only [heap_alloc_if, if_true]) rfl (by simp only [maxLen]; omega)) one2 (by simp [Act.eval]) (by simp [Act.eval]) (by omega) (by simp only [maxLen]; omega) ?_); intro ly' w4 ol4 gr4 fr4 nn4; obtain ⟨lya, lyc, hly, _⟩ := ol4.sl.shape; subst hly; have M4 : Mod (fun q => ly.ownBlock = some q) w3 w4 := Mod.grown (Mod.alloc (Mod.refl _ _) _) gr4 (fun q h => .inl h); have B4 := M4.blk B3h.out hy3; have c4 : w4.cell? ⟨px, 1, none⟩ = some ly := (by simp [World.cell?, B4]); have f4 := two_free B4 1; have c40 : w4.cell? ⟨px, 0, none⟩ = some (Value.slice la (m.length + 1) lc) := (by simp [World.cell?, B4]); have HQ := Lib.hid (And.intro ol4 (And.intro M4 (And.intro fr4 B4))); clear ol4 gr4 fr4 nn4 M4 B4)
          go_ret2
          obtain ⟨OB, F2, M2, ol2, hw3⟩ := HP.out
          obtain ⟨ol4, M4, fr4, B4⟩ := HQ.out
          rw [hw3] at M4 fr4
          have F4 : ∀ q, (Value.slice lya (m.length + 1) lyc).ownBlock = some q → ly.ownBlock = some q ∨ wr.heap.size ≤ q := fun q hq => (fr4 q hq).imp id (fun h => by simp [World.setCell] at h; omega)
          have oy' : Own wr 3 1 (.slice (some ⟨gy, 0, none⟩) k k) (newBlk k).y.length ((newBlk k).y.map iv) := by have h := or; rw [fillTo_n] at h; simpa [newBlk] using h
          obtain ⟨P1, P2, P3⟩ := ref_push (B := newBlk k) hin X2.out.1 M2 ol2 F2 (by simpa [newBlk, bv] using OB) oy' (fun q hq => by simp [Value.ownBlock] at hq; omega) (fun q hq => by simp [Value.ownBlock] at hq; have := HG.out; omega) M4 ol4 F4 (by simp [newBlk]) (by simp [newBlk]; omega) (by intro x hx; simp [newBlk] at hx; simp [I64, hx.2]) r3
          have em : bmakeE m (k : Int) = 0 := by unfold bmakeE; rw [if_neg (by omega), if_neg (by omega)]
          have en : bmakeN m (k : Int) = (m.length : Int) := by unfold bmakeN; rw [if_pos em]
          have eb : bmake m (k : Int) = m ++ [newBlk k] := by unfold bmake; rw [if_pos em, Int.toNat_natCast]
          exact ⟨by rw [em, en]; rfl, _, ⟨px, _, _, _, _, rfl, by rw [eb]; exact P1, fun q => by rw [eb]⟩, P2.weak (fun q hq => .inl ((HS.out q).2 hq)), fun q hq => (P3 q hq).imp (HS.out q).2 id⟩
end Go.Proofs.Ytnnciakdeoopaaa
