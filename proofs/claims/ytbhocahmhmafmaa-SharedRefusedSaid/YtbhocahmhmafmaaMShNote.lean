/-
  The contract of (*shared.Shared).note. No condition. Words of bytes, by both texts; where a note of an event leads. No condition.
-/
import Derived.Test.YtbhocahmhmafmaaMShAt
import Derived.Test.YtbhocahmhmafmaaMElemAt
namespace Go.Proofs.Ytbhocahmhmafmaa
open Go.Ren Go.RowKit
set_option linter.unusedVariables false
/-- One event more in the log's rows. -/
theorem LogOwn.push {w8 w9 : World} {hv hv9 pv : Value} {V : Nat → Vs} {L : Lg} {e : Ev} {v : Vs} (h : LogOwn w8 hv pv V L) (he : EvOwn w8 e v) (M9 : Mod (fun q => hv.ownBlock = some q) w8 w9)
    (ol : Own w9 54 10 hv9 (L.ev.length + 1) (flat 10 L.ev.length (fun i j => evcell (evn L.ev i) (V i) j) ++ (evArr e v).toList)) {g : Nat} {cs : Array Value} (z9 : w9.heap[g]? = some (.cells cs 65 (0, 0))) (j : Nat) (u : Value) :
    LogOwn (w9.setCell ⟨g, j, none⟩ u) hv9 pv (evUpd V L.ev.length v) ⟨L.ev ++ [e], L.pr⟩ := by
  have Ms : Mod (fun q => q = g) w9 (w9.setCell ⟨g, j, none⟩ u) := Mod.setCell (F := fun q => q = g) (Mod.refl _ _) (.inl rfl) _
  have kp : ∀ {e : Ev} {v : Vs}, EvOwn w8 e v → EvOwn (w9.setCell ⟨g, j, none⟩ u) e v := fun {e v} h' => by
    have h2 : EvOwn w9 e v := h'.mod M9 (fun q hq hl => by
      rcases hq with h3 | h3 | h3
      · exact h'.rd.apart h.row (by decide) h3 hl
      · exact h'.wr.apart h.row (by decide) h3 hl
      · exact h'.fr.apart h.row (by decide) h3 hl)
    exact h2.mod Ms (fun q hq hl => by subst hl; exact h2.apart z9 (by decide) (by decide) hq)
  refine ⟨?_, fun i hi => ?_, ?_⟩
  · show Own _ _ 10 hv9 (L.ev ++ [e]).length (flat 10 (L.ev ++ [e]).length _)
    rw [List.length_append, List.length_singleton]
    have e1 := evrow_snoc (fun i => evn (L.ev ++ [e]) i) V L.ev.length v
    have e2 : flat 10 L.ev.length (fun i j => evcell (evn (L.ev ++ [e]) i) (V i) j) = flat 10 L.ev.length (fun i j => evcell (evn L.ev i) (V i) j) := flat_congr fun i j hi _ => by rw [evn_lt hi]
    rw [evn_at, e2] at e1
    rw [e1]
    exact ol.mod Ms (fun q hq hl => by subst hl; exact ol.apart_obj z9 (by decide) hq)
  · have hi' : i < L.ev.length + 1 := by have : i < (L.ev ++ [e]).length := hi; simpa using this
    show EvOwn _ (evn (L.ev ++ [e]) i) _
    by_cases e0 : i = L.ev.length
    · subst e0
      rw [evn_at]
      simp only [evUpd, if_true]
      exact kp he
    · have e2 : evUpd V L.ev.length v i = V i := by simp [evUpd, e0]
      rw [e2, evn_lt (by omega)]
      exact kp (h.ev i (by omega))
  · have r9 := h.prow.mod M9 (fun k hk hl => h.prow.apart h.row (by decide) hk hl)
    exact r9.mod Ms (fun q hq hl => by subst hl; exact r9.apart_obj z9 (by decide) hq)
/-- The memory with one event more. -/
theorem ShIn.push {w w8 w9 : World} {z : ShV} {s : Shm} (h : ShIn w z s) (x : Ext w w8) {e : Ev} {v : Vs} (he : EvOwn w e v) (hd : ∀ k, EvFp v k → ¬ z.Fp s k) (ok : ShOk (shPush s e)) {hv9 : Value} (M9 : Mod (fun q => z.hv.ownBlock = some q) w8 w9)
    (ol : Own w9 54 10 hv9 (s.L.ev.length + 1) (flat 10 s.L.ev.length (fun i j => evcell (evn s.L.ev i) (z.V i) j) ++ (evArr e v).toList)) (fr : ∀ q, hv9.ownBlock = some q → z.hv.ownBlock = some q ∨ w.heap.size ≤ q) :
    ShIn (w9.setCell ⟨z.g, 3, none⟩ hv9) { z with hv := hv9, V := evUpd z.V s.L.ev.length v } (shPush s e) ∧ Mod (fun k => k = z.g ∨ z.hv.ownBlock = some k) w (w9.setCell ⟨z.g, 3, none⟩ hv9) := by
  have hx := h.ext x
  have z9 := M9.blk hx.box (fun k => hx.log.row.apart_obj hx.box (by decide) k)
  have M1 : Mod (fun k => k = z.g ∨ z.hv.ownBlock = some k) w (w9.setCell ⟨z.g, 3, none⟩ hv9) := ((x.mod _).trans' M9 (fun q hq => .inl (.inr hq))).setCell (.inl (.inl rfl)) _
  have lo := (h.log.ext x).push (he.ext x) M9 ol z9 3 hv9
  have hnl : ∀ k, z.U k → ¬ (k = z.g ∨ z.hv.ownBlock = some k) := fun k hk hh => h.lu k (hh.elim .inl (fun h1 => .inr (.inr (.inl h1)))) hk
  have hlf : ∀ k, ({ z with hv := hv9, V := evUpd z.V s.L.ev.length v } : ShV).Lf (shPush s e).L.ev.length k → z.Lf s.L.ev.length k ∨ w.heap.size ≤ k ∨ EvFp v k := fun k hk => by
    rcases hk with rfl | hk | hk | hk | ⟨i, hi, hk⟩
    · exact .inl (.inl rfl)
    · exact .inl (.inr (.inl hk))
    · exact (fr k hk).imp (fun h1 => .inr (.inr (.inl h1))) .inl
    · exact .inl (.inr (.inr (.inr (.inl hk))))
    · have hi' : i < s.L.ev.length + 1 := by have : i < (s.L.ev ++ [e]).length := hi; simpa using this
      by_cases e0 : i = s.L.ev.length
      · subst e0
        have e2 : evUpd z.V s.L.ev.length v s.L.ev.length = v := by simp [evUpd]
        have hk' : EvFp (evUpd z.V s.L.ev.length v s.L.ev.length) k := hk
        rw [e2] at hk'
        exact .inr (.inr hk')
      · have e2 : evUpd z.V s.L.ev.length v i = z.V i := by simp [evUpd, e0]
        have hk' : EvFp (evUpd z.V s.L.ev.length v i) k := hk
        rw [e2] at hk'
        exact .inl (.inr (.inr (.inr (.inr ⟨i, by omega, hk'⟩))))
  refine ⟨⟨?_, h.blks.mod M1 hnl, h.noq, fun h0 => ?_, fun h0 i hi => ?_, lo, fun k hk hu => ?_, fun h0 i k hi hk => ⟨fun hl => ?_, (h.lq h0 i k hi hk).2⟩, h.qq, ok⟩, M1⟩
  · simp [World.setCell, Array.getElem?_modify, z9]
    rfl
  · have q0 := h.qrow h0
    exact q0.mod M1 fun k hk hh => hh.elim (fun h1 => by subst h1; exact q0.apart_obj h.box (by decide) hk) (fun h1 => q0.apart h.log.row (by decide) hk h1)
  · exact (h.qat h0 i hi).mod M1 fun k hk hh => (h.lq h0 i k hi hk).1 (hh.elim .inl (fun h1 => .inr (.inr (.inl h1))))
  · rcases hlf k hk with h1 | h1 | h1
    · exact h.lu k h1 hu
    · have := h.blks.lt hu; omega
    · exact hd k h1 (.inr (.inl hu))
  · rcases hlf k hl with h1 | h1 | h1
    · exact (h.lq h0 i k hi hk).1 h1
    · have := (h.qat h0 i hi).lt hk; omega
    · exact hd k h1 (.inr (.inr ⟨h0, i, hi, hk⟩))
def NotePost (z : ShV) (s : Shm) (e : Ev) (v : Vs) (w : World) (r : Ending) (w' : World) : Prop := r = .returned (.int .i64 (s.L.ev.length : Int)) ∧ ∃ hv', ShIn w' { z with hv := hv', V := evUpd z.V s.L.ev.length v } (shPush s e) ∧
  Mod (fun k => k = z.g ∨ z.hv.ownBlock = some k) w w' ∧ ∀ k, hv'.ownBlock = some k → z.hv.ownBlock = some k ∨ w.heap.size ≤ k
set_option maxRecDepth 100000 in
set_option maxHeartbeats 1600000 in
theorem shnote_any (w : World) (z : ShV) (s : Shm) (h : ShIn w z s) (e : Ev) (v : Vs) (ho : EvOwn w e v) (hd : ∀ k, EvFp v k → ¬ z.Fp s k) (ok : ShOk (shPush s e)) :
    Calls Try.prog 30 #[ptr z.g, evV e v] w (NotePost z s e v w) := by
  obtain ⟨k1, k2, k3, t1, t2, t3⟩ := ev_facts (ho.at_ (by have := ok.evI s.L.ev.length (by show _ < (s.L.ev ++ [e]).length; simp); rwa [show evn (shPush s e).L.ev s.L.ev.length = e from evn_at] at this))
  obtain ⟨g, hg⟩ : ∃ g, g = z.g := ⟨_, rfl⟩
  obtain ⟨hv, hhv⟩ : ∃ g, g = z.hv := ⟨_, rfl⟩
  obtain ⟨w7, hw7⟩ : ∃ w7, w7 = w.alloc (.cells (evArr e v) 54) := ⟨_, rfl⟩
  obtain ⟨g7, hg7⟩ : ∃ g, g = w.heap.size := ⟨_, rfl⟩
  have x7 : Ext w w7 := by rw [hw7]; exact (Mod.refl _ _).alloc _
  have b7 : EvBox w7 g7 e v := by rw [hw7, hg7]; exact EvBox.of w e v
  have n1 : (s.L.ev.length : Int) < 1000 := by have h1 : (s.L.ev ++ [e]).length ≤ 1000 := ok.ev; simp at h1; omega
  have KM : Hid (∀ w', Mod (fun q => hv.ownBlock = some q) w7 w' → (w'.cell? ⟨g, 3, none⟩ = some hv ∧ w'.cell? ⟨g7, 0, none⟩ = some (.int .i64 (e).ag) ∧ w'.cell? ⟨g7, 1, none⟩ = some (.int .i64 (e).kind) ∧ w'.cell? ⟨g7, 2, none⟩ = some (.bool (e).seq) ∧ w'.cell? ⟨g7, 3, none⟩ = some (.bool (e).nt) ∧ w'.cell? ⟨g7, 4, none⟩ = some (.int .i64 (e).blk) ∧ w'.cell? ⟨g7, 5, none⟩ = some (.int .i64 (e).at_) ∧ w'.cell? ⟨g7, 6, none⟩ = some (.int .i64 (e).size) ∧ w'.cell? ⟨g7, 7, none⟩ = some v.r ∧ w'.cell? ⟨g7, 8, none⟩ = some v.w ∧ w'.cell? ⟨g7, 9, none⟩ = some v.f) ∧ w'.frozen? ⟨g, 3, none⟩ = false) := Lib.hid fun w' M => by
    have hb := x7.blk h.box
    have h5 := M.blk hb (fun hq => by rw [hhv] at hq; exact h.log.row.apart_obj h.box (by decide) hq)
    have h7 := M.blk b7.b (fun hq => by rw [hhv] at hq; have := h.log.row.lt hq; omega)
    rw [← hg, ← hhv] at h5
    exact ⟨by simp [World.cell?, h5, h7], by simp [World.frozen?, h5]⟩
  have HX := Lib.hid (And.intro hw7 (And.intro hg7 x7))
  have HG := Lib.hid hg
  have HHV := Lib.hid hhv
  have HR := Lib.hid h
  have HO := Lib.hid (And.intro ho (And.intro hd ok))
  have H1 : Hid (∀ x ∈ (evArr e v).toList, x.oneCell' = true) := Lib.hid (one10 (Sl.one ho.rd.sl) (Sl.one ho.wr.sl) (Sl.one ho.fr.sl))
  rw [← hg]
  clear h ho hd ok hg hhv hw7 hg7 x7 b7
  unfold evV
  go_enter Try.func30, Try.ntmps30
  go_upto_region 1 with fail
  rw [← HX.out.1, ← HX.out.2.1]
  clear k1 k2 k3 t1 t2 t3
  refine wp_region_planL [12] [(0, 3), (1, 3), (2, 3), (3, 3), (4, 3), (5, 0), (6, 0), (7, 1), (8, 1), (9, 3), (10, 3), (11, 3), (12, 2)] (fun w' => w'.cell? ⟨g, 3, none⟩ = some hv ∧ w'.cell? ⟨g7, 0, none⟩ = some (.int .i64 (e).ag) ∧ w'.cell? ⟨g7, 1, none⟩ = some (.int .i64 (e).kind) ∧ w'.cell? ⟨g7, 2, none⟩ = some (.bool (e).seq) ∧ w'.cell? ⟨g7, 3, none⟩ = some (.bool (e).nt) ∧ w'.cell? ⟨g7, 4, none⟩ = some (.int .i64 (e).blk) ∧ w'.cell? ⟨g7, 5, none⟩ = some (.int .i64 (e).at_) ∧ w'.cell? ⟨g7, 6, none⟩ = some (.int .i64 (e).size) ∧ w'.cell? ⟨g7, 7, none⟩ = some v.r ∧ w'.cell? ⟨g7, 8, none⟩ = some v.w ∧ w'.cell? ⟨g7, 9, none⟩ = some v.f) (by kernel_rfl) (by kernel_rfl) (by kernel_rfl) (fun _ d _ _ _ h => by cases d <;> exact h) ((KM.out _ (Mod.drew (Mod.refl _ _))).1) ?_
  simp only [planLL, getO]
  (refine planL_pure (v := ?_) (by rfl) (fun wS => ?_) ?_; rotate_left; (focus (go_simp; (try with_reducible rfl); done)); (try simp only [Act.put, List.setIfInBounds_toArray, List.set_cons_zero, List.set_cons_succ]))
  (refine planL_pure (v := ?_) (by rfl) (fun wS => ?_) ?_; rotate_left; (focus (go_simp; (try with_reducible rfl); done)); (try simp only [Act.put, List.setIfInBounds_toArray, List.set_cons_zero, List.set_cons_succ]))
  (refine planL_pure (v := ?_) (by rfl) (fun wS => ?_) ?_; rotate_left; (focus (go_simp; (try with_reducible rfl); done)); (try simp only [Act.put, List.setIfInBounds_toArray, List.set_cons_zero, List.set_cons_succ]))
  (refine planL_pure (v := ?_) (by rfl) (fun wS => ?_) ?_; rotate_left; (focus (go_simp; (try with_reducible rfl); done)); (try simp only [Act.put, List.setIfInBounds_toArray, List.set_cons_zero, List.set_cons_succ]))
  (refine planL_pure (v := ?_) (by rfl) (fun wS => ?_) ?_; rotate_left; (focus (go_simp; (try with_reducible rfl); done)); (try simp only [Act.put, List.setIfInBounds_toArray, List.set_cons_zero, List.set_cons_succ]))
  (refine planL_take (v := ?_) (by rfl) (fun wS hS => ?_) ?_; rotate_left; (focus ((try dsimp only at hS); go_simp; (try with_reducible rfl); done)); (try simp only [Act.put, List.setIfInBounds_toArray, List.set_cons_zero, List.set_cons_succ]))
  (refine planL_take (v := ?_) (by rfl) (fun wS hS => ?_) ?_; rotate_left; (focus ((try dsimp only at hS); go_simp; (try with_reducible rfl); done)); (try simp only [Act.put, List.setIfInBounds_toArray, List.set_cons_zero, List.set_cons_succ]))
  refine planL_call (fun K hK => ?_)
  go_simp
  skip
  refine hK.out _ _ ((KM.out _ (Ext.mod (Mod.drew (Mod.alloc (Mod.refl _ _) _)) _)).1) ?_
  clear hK K
  (try simp only [Act.put, List.setIfInBounds_toArray, List.set_cons_zero, List.set_cons_succ])
  refine planL_call (fun K hK => ?_)
  refine step_app IEv rfl (.tmp 10) (.tmp 12) rfl (HR.out.log.row.ext (HX.out.2.2.trans (Mod.drew (Mod.alloc (Mod.refl _ _) _)))) (built_sl (n := 1) (g := w7.heap.size) (e := 54) (cs := evArr e v) (by rw [heap_drew, heap_alloc_if]; exact if_pos rfl) rfl (by simp only [maxLen]; omega)) H1.out (by simp [Act.eval, HHV.out]) (by simp [Act.eval]) (by omega) (by simp only [maxLen]; omega) ?_; intro hv9 w9 ol9 gr9 fr9 nn9; obtain ⟨la9, lc9, hlv9, _⟩ := ol9.sl.shape; subst hlv9; have M9 : Mod (fun q => hv.ownBlock = some q) w7 w9 := Mod.grown (Mod.drew (Mod.alloc (Mod.refl _ _) _)) (HHV.out.symm ▸ gr9) (fun q h => .inl h); obtain ⟨⟨e3, -⟩, ef3⟩ := KM.out _ M9
  refine hK.out _ _ ((KM.out _ M9).1) ?_
  clear hK K
  (try simp only [Act.put, List.setIfInBounds_toArray, List.set_cons_zero, List.set_cons_succ])
  (refine planL_pure (v := ?_) (by rfl) (fun wS => ?_) ?_; rotate_left; (focus (go_simp; (try with_reducible rfl); done)); (try simp only [Act.put, List.setIfInBounds_toArray, List.set_cons_zero, List.set_cons_succ]))
  (refine planL_pure (v := ?_) (by rfl) (fun wS => ?_) ?_; rotate_left; (focus (go_simp; (try with_reducible rfl); done)); (try simp only [Act.put, List.setIfInBounds_toArray, List.set_cons_zero, List.set_cons_succ]))
  (refine planL_pure (v := ?_) (by rfl) (fun wS => ?_) ?_; rotate_left; (focus (go_simp; (try with_reducible rfl); done)); (try simp only [Act.put, List.setIfInBounds_toArray, List.set_cons_zero, List.set_cons_succ]))
  refine planL_late (fun K hK => ?_)
  go_simp
  refine hK.out _ _ ?_
  clear hK K
  (try simp only [Act.put, List.setIfInBounds_toArray, List.set_cons_zero, List.set_cons_succ])
  refine planL_nil ?_
  have F9 : ∀ q, (Value.slice la9 (s.L.ev.length + 1) lc9).ownBlock = some q → z.hv.ownBlock = some q ∨ w.heap.size ≤ q := fun q hq => (fr9 q hq).imp id (fun h => by have h1 := HX.out.2.2.size; (try simp only [World.size_alloc, World.size_drew] at h); omega)
  obtain ⟨P1, P2⟩ := HR.out.push HX.out.2.2 HO.out.1 HO.out.2.1 HO.out.2.2 (HHV.out ▸ M9) ol9 F9
  obtain ⟨W, hW⟩ : ∃ W, W = w9.setCell ⟨z.g, 3, none⟩ (.slice la9 (s.L.ev.length + 1) lc9) := ⟨_, rfl⟩
  rw [← hW] at P1 P2
  rw [show w9.setCell ⟨g, 3, none⟩ (.slice la9 (s.L.ev.length + 1) lc9) = W by rw [hW, HG.out]]
  obtain ⟨_, _, _, c3, _⟩ := P1.cells
  have c3' : W.cell? ⟨g, 3, none⟩ = some (.slice la9 (s.L.ev.length + 1) lc9) := by rw [HG.out]; exact c3
  have HP := Lib.hid (And.intro P1 (And.intro P2 F9))
  clear c3 P1 P2 F9 hW e3 ef3 gr9 fr9 ol9 nn9 M9
  have w1 : IntKind.i64.wrap (((s.L.ev.length + 1 : Nat) : Int) - 1) = (s.L.ev.length : Int) := IntWalk.i64_in _ (by omega) |>.trans (by omega)
  go_wp2_with fail
  go_ret
  obtain ⟨P1, P2, F9⟩ := HP.out
  exact ⟨rfl, _, P1, P2, F9⟩
end Go.Proofs.Ytbhocahmhmafmaa
namespace Go.Ren
set_option linter.unusedVariables false
theorem wordN_take {l : List UInt8} {k : Nat} (h : k < l.length) : wordN (l.take (k + 1)) = wordN (l.take k) + l[k].toNat * 2 ^ (8 * k) := by
  induction k generalizing l with
  | zero =>
    cases l with
    | nil => simp at h
    | cons b l => simp [wordN]
  | succ k ih =>
    cases l with
    | nil => simp at h
    | cons b l =>
      simp only [List.length_cons] at h
      rw [List.take_succ_cons, List.take_succ_cons]
      unfold wordN
      rw [ih (by omega), List.getElem_cons_succ, Nat.mul_add, show 8 * (k + 1) = 8 + 8 * k by omega, Nat.pow_add]
      simp only [show (2 : Nat) ^ 8 = 256 from rfl]
      rw [← Nat.add_assoc]
      congr 1
      rw [← Nat.mul_assoc, ← Nat.mul_assoc, Nat.mul_comm 256]
theorem wordP_eq (l : List UInt8) : ∀ k, k ≤ l.length → wordP l k = wordN (l.take k)
  | 0, _ => by simp [wordP, wordN]
  | k + 1, h => by
    have ih := wordP_eq l k (by omega)
    have hl := wordN_lt (l.take k)
    rw [List.length_take, Nat.min_eq_left (by omega)] at hl
    unfold wordP
    rw [ih, wordN_take (by omega), List.getElem?_eq_getElem (by omega : k < l.length)]
    simp only [Option.getD_some]
    rw [Nat.or_comm, ← Nat.shiftLeft_add_eq_or_of_lt hl, Nat.shiftLeft_eq, Nat.add_comm]
theorem szK_kindC {size : Int} (h : size = 1 ∨ size = 2 ∨ size = 4 ∨ size = 8) : szK (kindC size) = size.toNat ∧ szK (kindC size) ≠ 0 := by
  rcases h with rfl | rfl | rfl | rfl <;> decide
theorem wordK_eq {size : Int} (h : size = 1 ∨ size = 2 ∨ size = 4 ∨ size = 8) {l : List UInt8} (hl : l.length = size.toNat) : wordK (kindC size) l = (wordN l, true) := by
  obtain ⟨h1, h2⟩ := szK_kindC h
  unfold wordK
  rw [if_neg (by omega), wordP_eq l _ (Nat.le_refl _), List.take_length]
end Go.Ren
namespace Go.Proofs.Ytbhocahmhmafmaa
open Go.Ren Go.RowKit
set_option linter.unusedVariables false
theorem ShIn.note_fp {w w1 w' : World} {z : ShV} {s : Shm} {e : Ev} {v : Vs} {hv' : Value} (h : ShIn w z s) (x : Ext w w1) (hv : ∀ k, EvFp v k → w.heap.size ≤ k) (m1 : Mod (fun k => k = z.g ∨ z.hv.ownBlock = some k) w1 w') (f1 : ∀ k, hv'.ownBlock = some k → z.hv.ownBlock = some k ∨ w1.heap.size ≤ k) :
    Mod (z.Fp s) w w' ∧ ∀ k, ({ z with hv := hv', V := evUpd z.V s.L.ev.length v } : ShV).Fp (shPush s e) k → z.Fp s k ∨ w.heap.size ≤ k := by
  refine ⟨(x.mod (z.Fp s)).trans' m1 (fun k hk => .inl (.inl (hk.elim .inl (fun h2 => .inr (.inr (.inl h2)))))), fun k hk => ?_⟩
  rcases hk with (hk | hk | hk | hk | ⟨i, hi, hk⟩) | hk | hk
  · exact .inl (.inl (.inl hk))
  · exact .inl (.inl (.inr (.inl hk)))
  · rcases f1 k hk with h2 | h2
    · exact .inl (.inl (.inr (.inr (.inl h2))))
    · exact .inr (Nat.le_trans x.size h2)
  · exact .inl (.inl (.inr (.inr (.inr (.inl hk)))))
  · have hi' : i < s.L.ev.length + 1 := by have : i < (s.L.ev ++ [e]).length := hi; simpa using this
    by_cases e0 : i = s.L.ev.length
    · have e2 : evUpd z.V s.L.ev.length v i = v := by simp [evUpd, e0]
      have hk' : EvFp (evUpd z.V s.L.ev.length v i) k := hk
      rw [e2] at hk'
      exact .inr (hv k hk')
    · have e2 : evUpd z.V s.L.ev.length v i = z.V i := by simp [evUpd, e0]
      have hk' : EvFp (evUpd z.V s.L.ev.length v i) k := hk
      rw [e2] at hk'
      exact .inl (.inl (.inr (.inr (.inr (.inr ⟨i, by omega, hk'⟩)))))
  · exact .inl (.inr (.inl hk))
  · exact .inl (.inr (.inr hk))
theorem ShIn.note_to {w w1 w' : World} {z : ShV} {s : Shm} {e : Ev} {v : Vs} {r : Ending} (h : ShIn w z s) (x : Ext w w1) (hv : ∀ k, EvFp v k → w.heap.size ≤ k) (P : NotePost z s e v w1 r w') : ShTo z s (shPush s e) w w' := by
  obtain ⟨_, hv', h1, m1, f1⟩ := P
  obtain ⟨M, F⟩ := h.note_fp (e := e) x hv m1 f1
  exact ⟨{ z with hv := hv', V := evUpd z.V s.L.ev.length v }, rfl, h1, M, F⟩
theorem ShQ.fp {w w' : World} {z : ShV} {s s' : Shm} {SQ' : Nat → Nat → Prop} (hn : s'.n = s.n) (hr : s'.room = s.room) (hl : s'.L = s.L) (m1 : Mod (fun k => z.U k ∨ (0 < s.room ∧ ∃ i, i < s.n ∧ z.SQ i k)) w w') (f1 : ∀ i k, i < s.n → SQ' i k → z.SQ i k ∨ w.heap.size ≤ k) :
    Mod (z.Fp s) w w' ∧ ∀ k, ({ z with SQ := SQ' } : ShV).Fp s' k → z.Fp s k ∨ w.heap.size ≤ k := by
  refine ⟨m1.weak (fun k hk => .inl (.inr (hk.imp id id))), fun k hk => ?_⟩
  rcases hk with hk | hk | ⟨h0, i, hi, hk⟩
  · have hk' : z.Lf s'.L.ev.length k := hk
    rw [hl] at hk'
    exact .inl (.inl hk')
  · exact .inl (.inr (.inl hk))
  · rw [hn] at hi
    rw [hr] at h0
    exact (f1 i k hi hk).imp (fun h2 => .inr (.inr ⟨h0, i, hi, h2⟩)) id
/-- The noted event's own lists behind the note. -/
theorem note_own {w w' : World} {z : ShV} {s : Shm} {e : Ev} {v : Vs} {r : Ending} (P : NotePost z s e v w r w') : EvOwn w' e v := by
  obtain ⟨_, hv', h1, _, _⟩ := P
  have h2 := h1.log.ev s.L.ev.length (by show _ < (s.L.ev ++ [e]).length; simp)
  have e1 : evn (shPush s e).L.ev s.L.ev.length = e := evn_at
  have e2 : evUpd z.V s.L.ev.length v s.L.ev.length = v := by simp [evUpd]
  rw [e1] at h2
  have h3 : EvOwn w' e (evUpd z.V s.L.ev.length v s.L.ev.length) := h2
  rwa [e2] at h3
/-! The same contracts, where the pointer is spelled otherwise. -/
theorem shcheck_at {g : Nat} {w : World} {z : ShV} {s : Shm} (hg : g = z.g) (h : ShIn w z s) (ag k a size : Int) : Calls Try.prog 26 #[ptr g, .int .i64 ag, .int .i64 k, .int .i64 a, .int .i64 size] w fun e w' => e = .returned (.int .i64 (shC s ag k a size)) ∧ w = w' := by subst hg; exact shcheck_any w z s h ag k a size
theorem shfull_at {g : Nat} {w : World} {z : ShV} {s : Shm} (hg : g = z.g) (h : ShIn w z s) : Calls Try.prog 27 #[ptr g] w fun e w' => e = .returned (.bool (decide (1000 ≤ s.L.ev.length))) ∧ w = w' := by subst hg; exact shfull_any w z s h
theorem shdrain_at {g : Nat} {w : World} {z : ShV} {s : Shm} (hg : g = z.g) (h : ShIn w z s) {ag : Int} (ha : ∃ i : Nat, ag = i ∧ i < s.n) : Calls Try.prog 31 #[ptr g, .int .i64 ag] w fun r w' => r = .returned (.tuple #[]) ∧ ShTo z s (shDrain s ag) w w' := by
  obtain ⟨i, rfl, hi⟩ := ha
  subst hg
  exact shdrain_any w z s h i hi
theorem shdrain_qat {g : Nat} {w : World} {z : ShV} {s : Shm} (h : ShIn w z s) (hg : g = z.g) {ag : Int} (ha : ∃ i : Nat, ag = i ∧ i < s.n) : Calls Try.prog 31 #[ptr g, .int .i64 ag] w fun r w' => r = .returned (.tuple #[]) ∧ ShQ z s (shDrain s ag) w w' := by
  obtain ⟨i, rfl, hi⟩ := ha
  subst hg
  exact shdrain_q w z s h i hi
theorem shnote_at {g : Nat} {w : World} {z : ShV} {s : Shm} (hg : g = z.g) (h : ShIn w z s) {e : Ev} {v : Vs} (ho : EvOwn w e v) (hd : ∀ k, EvFp v k → ¬ z.Fp s k) (ok : ShOk (shPush s e)) : Calls Try.prog 30 #[ptr g, evV e v] w (NotePost z s e v w) := by subst hg; exact shnote_any w z s h e v ho hd ok
theorem shagent_at {g : Nat} {w : World} {z : ShV} {s : Shm} (hg : g = z.g) (h : ShIn w z s) (a : Int) : Calls Try.prog 52 #[ptr g, .int .i64 a] w fun e w' => e = .returned (.bool (agB s a)) ∧ w = w' := by subst hg; exact shagent_any w z s h a
/-- A later memory of the same box. -/
theorem ShTo.at_ {g : Nat} {z : ShV} {s s1 : Shm} {w w1 : World} (hg : g = z.g) (h : ShTo z s s1 w w1) : ∃ z1, g = z1.g ∧ ShIn w1 z1 s1 ∧ Mod (z.Fp s) w w1 ∧ ∀ k, z1.Fp s1 k → z.Fp s k ∨ w.heap.size ≤ k := by
  obtain ⟨z1, e1, h1, m1, f1⟩ := h
  exact ⟨z1, hg.trans e1.symm, h1, m1, f1⟩
theorem ShTo.then {g : Nat} {z z1 : ShV} {s s1 s2 : Shm} {w w1 w2 : World} (hg : g = z.g) (hz : g = z1.g) (m : Mod (z.Fp s) w w1) (f : ∀ k, z1.Fp s1 k → z.Fp s k ∨ w.heap.size ≤ k) (h2 : ShTo z1 s1 s2 w1 w2) : ShTo z s s2 w w2 := ShTo.trans (hz.symm.trans hg) m f h2
/-- The cells of the box, at the pointer's own name. -/
theorem ShIn.at_cells {g : Nat} {w : World} {z : ShV} {s : Shm} (h : ShIn w z s) (hg : g = z.g) : w.cell? ⟨g, 0, none⟩ = some (.int .i64 (s.n : Int)) ∧ w.cell? ⟨g, 1, none⟩ = some z.m ∧ w.cell? ⟨g, 2, none⟩ = some z.qv ∧ w.cell? ⟨g, 3, none⟩ = some z.hv ∧ w.cell? ⟨g, 4, none⟩ = some z.pv := by subst hg; exact h.cells
/-- Are there buffers? As the walk asks it. -/
theorem ShIn.qtest {w : World} {z : ShV} {s : Shm} (h : ShIn w z s) : ∃ B : Bool, (∀ w', (binOp .neq 63 z.qv (.slice none 0 0)).run Try.prog w' = .ok (.bool B) w') ∧ (∀ w', (binOp .eql 63 z.qv (.slice none 0 0)).run Try.prog w' = .ok (.bool (!B)) w') ∧ (B = false → s.room = 0) ∧ (B = true → 0 < s.room) := by
  rcases Nat.eq_zero_or_pos s.room with h0 | h0
  · rw [h.noq h0]
    exact ⟨false, (Own.nil w 68 1).sl.run_notnil IQS.und, (Own.nil w 68 1).sl.run_nil IQS.und, fun _ => h0, fun h => (by cases h)⟩
  · have n1 := (h.qrow h0).sl.run_notnil (P := Try.prog) IQS.und
    have n2 := (h.qrow h0).sl.run_nil (P := Try.prog) IQS.und
    rw [h.qnil h0] at n1 n2
    exact ⟨true, n1, n2, fun h => (by cases h), fun _ => h0⟩
theorem fp_apart {w : World} {z : ShV} {s : Shm} (h : ShIn w z s) {k : Nat} (hk : w.heap.size ≤ k) : ¬ z.Fp s k := fun h1 => by have := h.lt h1; omega
end Go.Proofs.Ytbhocahmhmafmaa
