/-
  The contract of (*block.Blocks).Copy: the same blocks, in memory of their own. No condition.
-/
import Derived.Test.YtbhocahmhmafmaaMBlkAt
import Derived.Deep.RegionLaw
namespace Go.Proofs.Ytbhocahmhmafmaa
open Go.Ren Go.RowKit
set_option linter.unusedVariables false

theorem one2 (a1 : Option Addr) (n1 c1 : Nat) (a2 : Option Addr) (n2 c2 : Nat) : ∀ x ∈ [Value.slice a1 n1 c1, Value.slice a2 n2 c2], x.oneCell' = true := by
  intro x hx; simp at hx; rcases hx with rfl | rfl <;> rfl
theorem take_len {m : List Blk} {k : Nat} (h : k ≤ m.length) : (m.take k).length = k := by simp; omega
theorem take_next {m : List Blk} {k : Nat} (h : k < m.length) : m.take (k + 1) = m.take k ++ [blk m k] := by rw [List.take_succ_eq_append_getElem h, blk_eq h]

set_option maxRecDepth 100000 in
set_option maxHeartbeats 800000 in
theorem copy_any (w : World) (p : Value) (m : List Blk) (S : Nat → Prop) (h : BlocksAt w p m S) :
    Calls Try.prog 73 #[p] w fun e w' => ∃ po S', e = .returned (.pointer (some ⟨po, 0, none⟩)) ∧ BlocksAt w' (.pointer (some ⟨po, 0, none⟩)) m S' ∧ Ext w w' ∧ ∀ k, S' k → w.heap.size ≤ k := by
  obtain ⟨pb, lv, V, Y, rfl, hin, _⟩ := h.ex
  clear h
  have c0 := cell_of_one hin.box
  have l0 := hin.row.sl.run_len (P := Try.prog) I1.und 3
  have hcnt := hin.ok.cnt
  have xa : Ext w (w.alloc (.cells #[.slice none 0 0] 109)) := (Mod.refl _ _).alloc _
  have c00 := xa.cell c0
  clear xa
  go_enter Try.func73, Try.ntmps73
  go_wp2
  obtain ⟨wc, hwc⟩ : ∃ wc, wc = w.alloc (.cells #[.slice none 0 0] 109) := ⟨_, rfl⟩
  have x1 : Ext w wc := by rw [hwc]; exact (Mod.refl _ _).alloc _
  have B0 : BlocksIn wc w.heap.size (.slice none 0 0) V Y (m.take 0) := ⟨by rw [hwc]; simp only [heap_alloc_if, if_true], Own.nil _ _ _, fun i hi => by simp at hi, fun i hi => by simp at hi, fun i j k hi => by simp at hi, fun i j k hi => by simp at hi, bok_nil⟩
  obtain ⟨po, hpo⟩ : ∃ po, po = w.heap.size := ⟨_, rfl⟩
  rw [← hwc, ← hpo]
  rw [← hpo] at B0
  have HPO := Lib.hid hpo
  clear hwc hpo
  go_loopw [13] (fun s13 wr => ∃ (k : Nat) (lw : Value) (V' Y' : Nat → Value), k ≤ m.length ∧ s13 = .int .i64 (k : Int) ∧ BlocksIn wr po lw V' Y' (m.take k) ∧ Ext w wr ∧ ∀ q, BlocksFp po lw V' Y' (m.take k).length q → w.heap.size ≤ q) (fun i _ => m.length - (intOf i).toNat)
  case atStart => exact ⟨0, _, V, Y, Nat.zero_le _, rfl, B0, x1, fun q hq => by
    rcases hq with rfl | hq | ⟨i, hi, _⟩
    · have := HPO.out; omega
    · cases hq
    · simp at hi⟩
  case round =>
    obtain ⟨k, lw, V', Y', hk, rfl, hb, x, hf⟩ := hrel
    clear B0 c0 c00
    by_cases hlt : k < m.length
    · have hlt' : (k : Int) < (m.length : Int) := by omega
      obtain ⟨L, hL⟩ : ∃ L, L = m.take k := ⟨_, rfl⟩
      have tl := take_len hk
      rw [← hL] at hb hf tl
      have hLN : m.take (k + 1) = L ++ [blk m k] := by rw [hL]; exact take_next hlt
      have HL := Lib.hid hLN
      clear hL hLN
      have i0 := hin.row.sl.run_idx (P := Try.prog) I1.und I1.size .i64 k hlt
      have c1 := x.cell (hin.cV hlt)
      have c2 := x.cell (hin.cY hlt)
      have b1 := (hin.bs k hlt).ext x
      have b2 := (hin.ys k hlt).ext x
      have k1 := b1.sl.cells_eq
      have k2 := b2.sl.cells_eq
      have t1 := b1.sl.run_st (P := Try.prog)
      have t2 := b2.sl.run_st (P := Try.prog)
      have htop := hin.ok.top k hlt
      have hyl := hin.ok.len k hlt
      have H := Lib.hid (And.intro hin (And.intro x (And.intro hf hyl)))
      have HB := Lib.hid hb
      have hy2 : (blk m k).y.length ≤ 256 := by omega
      clear hin x hf hyl
      go_wp2_with fail
      obtain ⟨g, hg⟩ : ∃ g, g = wr.heap.size := ⟨_, rfl⟩
      obtain ⟨w0, hw0⟩ : ∃ w0, w0 = wr.alloc (.cells #[V k, Y k] 106) := ⟨_, rfl⟩
      have x0 : Ext wr w0 := by rw [hw0]; exact (Mod.refl _ _).alloc _
      have d0 : w0.cell? ⟨po, 0, none⟩ = some lw := x0.cell (cell_of_one HB.out.box)
      have d1 : w0.cell? ⟨g, 0, none⟩ = some (V k) := by rw [hw0, hg]; simp
      have d2 : w0.cell? ⟨g, 1, none⟩ = some (Y k) := by rw [hw0, hg]; simp
      have hS : ∀ w', Ext w0 w' → (w'.cell? ⟨po, 0, none⟩ = some lw ∧ w'.cell? ⟨g, 0, none⟩ = some (V k) ∧ w'.cell? ⟨g, 1, none⟩ = some (Y k)) := fun w' h => ⟨h.cell d0, h.cell d1, h.cell d2⟩
      have hBy : ∀ w', Ext w0 w' → BytesAt w' (V k) (blk m k).b := fun w' hw => b1.sl.ext (by decide) (x0.trans hw)
      have hIn : ∀ w', Ext w0 w' → IntsAt w' (Y k) (blk m k).y := fun w' hw => ⟨b2.sl.ext (by decide) (x0.trans hw), H.out.1.ok.ok k hlt⟩
      rw [← hw0, ← hg]
      have HW := Lib.hid (And.intro hw0 (And.intro hg x0))
      clear hw0 hg x0 c1 c2 b1 b2 k1 k2 t1 t2 hb
      have hsz : L.length + 1 ≤ 16 := by omega
      clear tl
      go_region_law (first | (refine step_app I1 rfl (.tmp 21) (.tmp 29) rfl (HB.out.row.ext ?_) (built_sl (n := 1) (g := w2.heap.size) (e := 106) (cs := #[.slice la1 (blk m k).b.length lc1, .slice la2 (blk m k).y.length lc2]) ?_ rfl (by simp only [maxLen]; omega)) (one2 _ _ _ _ _ _) ?_ ?_ (by omega) (by simp only [maxLen]; omega) ?_; (repeat (first | exact HW.out.2.2.trans E2 | apply Mod.drew | apply Mod.alloc)); (simp only [heap_alloc_if, if_true]); (simp [Act.eval]); (simp [Act.eval]); intro lv' w3 ol3 gr3 fr3 nn3; obtain ⟨la, lc, hlv, _⟩ := ol3.sl.shape; subst hlv; have M3 : Mod (fun q => lw.ownBlock = some q) w2 w3 := Mod.grown (by repeat (first | exact Mod.refl _ _ | apply Mod.drew | apply Mod.alloc)) gr3 (fun q h => .inl h); have B3 := M3.blk (Ext.blk (HW.out.2.2.trans E2) HB.out.box) (fun e => HB.out.row.apart_obj HB.out.box (by decide) e); have c3 := cell_of_one B3; have f3 := free_of_one B3) | (go_simp; go_at_call 71; refine (clone_bytes _ _ (blk m k).b (hBy _ (by repeat (first | exact Mod.refl _ _ | apply Mod.drew))) (by omega)).mono ?_; rintro e w1 ⟨v1, rfl, o1, y1, f1⟩; rw [List.length_map] at o1; obtain ⟨la1, lc1, hv1, _⟩ := o1.sl.shape; subst hv1; have E1 : Ext w0 w1 := Mod.trans (by repeat (first | exact Mod.refl _ _ | apply Mod.drew)) y1; obtain ⟨p10, p11, p12⟩ := hS _ E1) | (go_simp; go_at_call 72; refine (clone_ints _ _ (blk m k).y (hIn _ E1) (by omega)).mono ?_; rintro e w2 ⟨v2, rfl, o2, y2, f2⟩; rw [List.length_map] at o2; obtain ⟨la2, lc2, hv2, _⟩ := o2.sl.shape; subst hv2; have E2 : Ext w0 w2 := Mod.trans E1 y2; obtain ⟨p20, p21, p22⟩ := hS _ E2; have p23 : (w2.alloc (.cells #[.slice la1 (blk m k).b.length lc1, .slice la2 (blk m k).y.length lc2] 106)).cell? ⟨po, 0, none⟩ = some lw := Ext.cell ((Mod.refl _ _).alloc _) p20))
      all_goals
        have F3 : ∀ q, (Value.slice la (L.length + 1) lc).ownBlock = some q → lw.ownBlock = some q ∨ w2.heap.size ≤ q := fun q hq => (fr3 q hq).imp id (fun h => by simp only [World.size_alloc] at h; omega)
        have P := blocks_push (B := blk m k) HB.out (HW.out.2.2.trans E2) M3 ol3 F3 (o1.ext y2) o2 (fun q hq => Nat.le_trans HW.out.2.2.size (f1 q hq)) (fun q hq => Nat.le_trans (Nat.le_trans HW.out.2.2.size E1.size) (f2 q hq)) H.out.2.2.2 htop (H.out.1.ok.ok k hlt) (by omega)
        have HP := Lib.hid P
        clear P F3 M3 ol3 gr3 fr3 B3 o1 o2 y1 y2 f1 f2 E1
        go_wp2_with fail
        go_roundw
        case rel =>
          obtain ⟨P1, P2, P3⟩ := HP.out
          rw [← HL.out] at P1 P3
          exact ⟨k + 1, _, _, _, by omega, by go_num, P1, H.out.2.1.trans' P2 (fun q hq => .inr (H.out.2.2.1 q hq)), fun q hq => (P3 q hq).elim (H.out.2.2.1 q) (fun h => Nat.le_trans H.out.2.1.size h)⟩
        case measure => simp [intOf]; omega
    · have hlt' : ¬ (k : Int) < (m.length : Int) := by omega
      obtain rfl : k = m.length := by omega
      rw [List.take_length] at hb hf
      have H := Lib.hid (And.intro hb (And.intro x hf))
      clear hb x hf
      go_wp2
      go_ret
      exact ⟨po, rfl, _, ⟨po, lw, V', Y', rfl, H.out.1, fun q => Iff.rfl⟩, H.out.2.1, H.out.2.2⟩
end Go.Proofs.Ytbhocahmhmafmaa
