/-
  The contract of (*shared.Shared).note. No condition. Words of bytes, by both texts; where a note of an event leads. No condition. The contract of (*shared.Shared).Load. No condition. The contract of (*shared.Shared).Store. No condition. The contract of (*shared.Shared).whole. No condition. The contracts of (*shared.Shared).Change and Swap. No condition. The contract of (*shared.Shared).Swap. No condition.
-/
import Derived.Test.YtbhocahmhmafmaaGreatPShAt
import Derived.Test.YtbhocahmhmafmaaGreatPElemAt
import Derived.Test.YtbhocahmhmafmaaGreatPBaseA
namespace Go.Proofs.YtbhocahmhmafmaaGreat
open Go.Ren Go.RowKit
set_option linter.unusedVariables false
theorem LogOwn.push {w8 w9 : World} {hv hv9 pv : Value} {V : Nat → Vs} {L : Lg} {e : Ev} {v : Vs} (h : LogOwn w8 hv pv V L) (he : EvOwn w8 e v) (M9 : Mod (fun q => hv.ownBlock = some q) w8 w9)
 (ol : Own w9 70 10 hv9 (L.ev.length + 1) (flat 10 L.ev.length (fun i j => evcell (evn L.ev i) (V i) j) ++ (evArr e v).toList)) {g : Nat} {cs : Array Value} (z9 : w9.heap[g]? = some (.cells cs 75 (0, 0))) (j : Nat) (u : Value) :
 LogOwn (w9.setCell ⟨g, j, none⟩ u) hv9 pv (evUpd V L.ev.length v) ⟨L.ev ++ [e], L.pr⟩ := by
 have Ms : Mod (fun q => q = g) w9 (w9.setCell ⟨g, j, none⟩ u) := Mod.setCell (F := fun q => q = g) (Mod.refl _ _) (.inl rfl) _
 have kp : ∀ {e : Ev} {v : Vs}, EvOwn w8 e v → EvOwn (w9.setCell ⟨g, j, none⟩ u) e v := fun {e v} h' => by
  have h2 : EvOwn w9 e v := h'.mod M9 (fun q hq hl => by
   rcases hq with h3 | h3 | h3
   · exact h'.rd.apart h.row (by decide) h3 hl
   · exact h'.wr.apart h.row (by decide) h3 hl
   · exact h'.fr.apart h.row (by decide) h3 hl)
  exact h2.mod Ms (fun q hq hl => by subst hl; exact h2.apart z9 (by decide) (by decide) hq)
 refine ⟨?_, fun i hi => ?_, ?_⟩
 · show Own _ _ 10 hv9 (L.ev ++ [e]).length (flat 10 (L.ev ++ [e]).length _)
   rw [List.length_append, List.length_singleton]
   have e1 := evrow_snoc (fun i => evn (L.ev ++ [e]) i) V L.ev.length v
   have e2 : flat 10 L.ev.length (fun i j => evcell (evn (L.ev ++ [e]) i) (V i) j) = flat 10 L.ev.length (fun i j => evcell (evn L.ev i) (V i) j) := flat_congr fun i j hi _ => by rw [evn_lt hi]
   rw [evn_at, e2] at e1
   rw [e1]
   exact ol.mod Ms (fun q hq hl => by subst hl; exact ol.apart_obj z9 (by decide) hq)
 · have hi' : i < L.ev.length + 1 := by have : i < (L.ev ++ [e]).length := hi; simpa using this
   show EvOwn _ (evn (L.ev ++ [e]) i) _
   by_cases e0 : i = L.ev.length
   · subst e0
     rw [evn_at]
     simp only [evUpd, if_true]
     exact kp he
   · have e2 : evUpd V L.ev.length v i = V i := by simp [evUpd, e0]
     rw [e2, evn_lt (by omega)]
     exact kp (h.ev i (by omega))
 · have r9 := h.prow.mod M9 (fun k hk hl => h.prow.apart h.row (by decide) hk hl)
   exact r9.mod Ms (fun q hq hl => by subst hl; exact r9.apart_obj z9 (by decide) hq)
theorem ShIn.push {w w8 w9 : World} {z : ShV} {s : Shm} (h : ShIn w z s) (x : Ext w w8) {e : Ev} {v : Vs} (he : EvOwn w e v) (hd : ∀ k, EvFp v k → ¬ z.Fp s k) (ok : ShOk (shPush s e)) {hv9 : Value} (M9 : Mod (fun q => z.hv.ownBlock = some q) w8 w9)
 (ol : Own w9 70 10 hv9 (s.L.ev.length + 1) (flat 10 s.L.ev.length (fun i j => evcell (evn s.L.ev i) (z.V i) j) ++ (evArr e v).toList)) (fr : ∀ q, hv9.ownBlock = some q → z.hv.ownBlock = some q ∨ w.heap.size ≤ q) :
 ShIn (w9.setCell ⟨z.g, 3, none⟩ hv9) { z with hv := hv9, V := evUpd z.V s.L.ev.length v } (shPush s e) ∧ Mod (fun k => k = z.g ∨ z.hv.ownBlock = some k) w (w9.setCell ⟨z.g, 3, none⟩ hv9) := by
 have hx := h.ext x
 have z9 := M9.blk hx.box (fun k => hx.log.row.apart_obj hx.box (by decide) k)
 have M1 : Mod (fun k => k = z.g ∨ z.hv.ownBlock = some k) w (w9.setCell ⟨z.g, 3, none⟩ hv9) := ((x.mod _).trans' M9 (fun q hq => .inl (.inr hq))).setCell (.inl (.inl rfl)) _
 have lo := (h.log.ext x).push (he.ext x) M9 ol z9 3 hv9
 have hnl : ∀ k, z.U k → ¬ (k = z.g ∨ z.hv.ownBlock = some k) := fun k hk hh => h.lu k (hh.elim .inl (fun h1 => .inr (.inr (.inl h1)))) hk
 have hlf : ∀ k, ({ z with hv := hv9, V := evUpd z.V s.L.ev.length v } : ShV).Lf (shPush s e).L.ev.length k → z.Lf s.L.ev.length k ∨ w.heap.size ≤ k ∨ EvFp v k := fun k hk => by
  rcases hk with rfl | hk | hk | hk | ⟨i, hi, hk⟩
  · exact .inl (.inl rfl)
  · exact .inl (.inr (.inl hk))
  · exact (fr k hk).imp (fun h1 => .inr (.inr (.inl h1))) .inl
  · exact .inl (.inr (.inr (.inr (.inl hk))))
  · have hi' : i < s.L.ev.length + 1 := by have : i < (s.L.ev ++ [e]).length := hi; simpa using this
    by_cases e0 : i = s.L.ev.length
    · subst e0
      have e2 : evUpd z.V s.L.ev.length v s.L.ev.length = v := by simp [evUpd]
      have hk' : EvFp (evUpd z.V s.L.ev.length v s.L.ev.length) k := hk
      rw [e2] at hk'
      exact .inr (.inr hk')
    · have e2 : evUpd z.V s.L.ev.length v i = z.V i := by simp [evUpd, e0]
      have hk' : EvFp (evUpd z.V s.L.ev.length v i) k := hk
      rw [e2] at hk'
      exact .inl (.inr (.inr (.inr (.inr ⟨i, by omega, hk'⟩))))
 refine ⟨⟨?_, h.blks.mod M1 hnl, h.noq, fun h0 => ?_, fun h0 i hi => ?_, lo, fun k hk hu => ?_, fun h0 i k hi hk => ⟨fun hl => ?_, (h.lq h0 i k hi hk).2⟩, h.qq, ok⟩, M1⟩
 · simp [World.setCell, Array.getElem?_modify, z9]
   rfl
 · have q0 := h.qrow h0
   exact q0.mod M1 fun k hk hh => hh.elim (fun h1 => by subst h1; exact q0.apart_obj h.box (by decide) hk) (fun h1 => q0.apart h.log.row (by decide) hk h1)
 · exact (h.qat h0 i hi).mod M1 fun k hk hh => (h.lq h0 i k hi hk).1 (hh.elim .inl (fun h1 => .inr (.inr (.inl h1))))
 · rcases hlf k hk with h1 | h1 | h1
   · exact h.lu k h1 hu
   · have := h.blks.lt hu; omega
   · exact hd k h1 (.inr (.inl hu))
 · rcases hlf k hl with h1 | h1 | h1
   · exact (h.lq h0 i k hi hk).1 h1
   · have := (h.qat h0 i hi).lt hk; omega
   · exact hd k h1 (.inr (.inr ⟨h0, i, hi, hk⟩))
def NotePost (z : ShV) (s : Shm) (e : Ev) (v : Vs) (w : World) (r : Ending) (w' : World) : Prop := r = .returned (.int .i64 (s.L.ev.length : Int)) ∧ ∃ hv', ShIn w' { z with hv := hv', V := evUpd z.V s.L.ev.length v } (shPush s e) ∧
 Mod (fun k => k = z.g ∨ z.hv.ownBlock = some k) w w' ∧ ∀ k, hv'.ownBlock = some k → z.hv.ownBlock = some k ∨ w.heap.size ≤ k
set_option maxRecDepth 100000 in
set_option maxHeartbeats 1600000 in
theorem shnote_any (w : World) (z : ShV) (s : Shm) (h : ShIn w z s) (e : Ev) (v : Vs) (ho : EvOwn w e v) (hd : ∀ k, EvFp v k → ¬ z.Fp s k) (ok : ShOk (shPush s e)) :
 Calls Tryz.prog 40 #[ptr z.g, evV e v] w (NotePost z s e v w) := by
 obtain ⟨k1, k2, k3, t1, t2, t3⟩ := ev_facts (ho.at_ (by have := ok.evI s.L.ev.length (by show _ < (s.L.ev ++ [e]).length; simp); rwa [show evn (shPush s e).L.ev s.L.ev.length = e from evn_at] at this))
 obtain ⟨g, hg⟩ : ∃ g, g = z.g := ⟨_, rfl⟩
 obtain ⟨hv, hhv⟩ : ∃ g, g = z.hv := ⟨_, rfl⟩
 obtain ⟨w7, hw7⟩ : ∃ w7, w7 = w.alloc (.cells (evArr e v) 70) := ⟨_, rfl⟩
 obtain ⟨g7, hg7⟩ : ∃ g, g = w.heap.size := ⟨_, rfl⟩
 have x7 : Ext w w7 := by rw [hw7]; exact (Mod.refl _ _).alloc _
 have b7 : EvBox w7 g7 e v := by rw [hw7, hg7]; exact EvBox.of w e v
 have n1 : (s.L.ev.length : Int) < 1000 := by have h1 : (s.L.ev ++ [e]).length ≤ 1000 := ok.ev; simp at h1; omega
 have KM : Hid (∀ w', Mod (fun q => hv.ownBlock = some q) w7 w' → (w'.cell? ⟨g, 3, none⟩ = some hv ∧ w'.cell? ⟨g7, 0, none⟩ = some (.int .i64 (e).ag) ∧ w'.cell? ⟨g7, 1, none⟩ = some (.int .i64 (e).kind) ∧ w'.cell? ⟨g7, 2, none⟩ = some (.bool (e).seq) ∧ w'.cell? ⟨g7, 3, none⟩ = some (.bool (e).nt) ∧ w'.cell? ⟨g7, 4, none⟩ = some (.int .i64 (e).blk) ∧ w'.cell? ⟨g7, 5, none⟩ = some (.int .i64 (e).at_) ∧ w'.cell? ⟨g7, 6, none⟩ = some (.int .i64 (e).size) ∧ w'.cell? ⟨g7, 7, none⟩ = some v.r ∧ w'.cell? ⟨g7, 8, none⟩ = some v.w ∧ w'.cell? ⟨g7, 9, none⟩ = some v.f) ∧ w'.frozen? ⟨g, 3, none⟩ = false) := Lib.hid fun w' M => by
  have hb := x7.blk h.box
  have h5 := M.blk hb (fun hq => by rw [hhv] at hq; exact h.log.row.apart_obj h.box (by decide) hq)
  have h7 := M.blk b7.b (fun hq => by rw [hhv] at hq; have := h.log.row.lt hq; omega)
  rw [← hg, ← hhv] at h5
  exact ⟨by simp [World.cell?, h5, h7], by simp [World.frozen?, h5]⟩
 have HX := Lib.hid (And.intro hw7 (And.intro hg7 x7))
 have HG := Lib.hid hg
 have HHV := Lib.hid hhv
 have HR := Lib.hid h
 have HO := Lib.hid (And.intro ho (And.intro hd ok))
 have H1 : Hid (∀ x ∈ (evArr e v).toList, x.oneCell' = true) := Lib.hid (one10 (Sl.one ho.rd.sl) (Sl.one ho.wr.sl) (Sl.one ho.fr.sl))
 rw [← hg]
 clear h ho hd ok hg hhv hw7 hg7 x7 b7
 unfold evV
 go_enter Tryz.func40, Tryz.ntmps40
 go_upto_region 1 with fail
 rw [← HX.out.1, ← HX.out.2.1]
 clear k1 k2 k3 t1 t2 t3
 refine wp_region_planL [12] [(0, 3), (1, 3), (2, 3), (3, 3), (4, 3), (5, 0), (6, 0), (7, 1), (8, 1), (9, 3), (10, 3), (11, 3), (12, 2)] (fun w' => w'.cell? ⟨g, 3, none⟩ = some hv ∧ w'.cell? ⟨g7, 0, none⟩ = some (.int .i64 (e).ag) ∧ w'.cell? ⟨g7, 1, none⟩ = some (.int .i64 (e).kind) ∧ w'.cell? ⟨g7, 2, none⟩ = some (.bool (e).seq) ∧ w'.cell? ⟨g7, 3, none⟩ = some (.bool (e).nt) ∧ w'.cell? ⟨g7, 4, none⟩ = some (.int .i64 (e).blk) ∧ w'.cell? ⟨g7, 5, none⟩ = some (.int .i64 (e).at_) ∧ w'.cell? ⟨g7, 6, none⟩ = some (.int .i64 (e).size) ∧ w'.cell? ⟨g7, 7, none⟩ = some v.r ∧ w'.cell? ⟨g7, 8, none⟩ = some v.w ∧ w'.cell? ⟨g7, 9, none⟩ = some v.f) (by kernel_rfl) (by kernel_rfl) (by kernel_rfl) (fun _ d _ _ _ h => by cases d <;> exact h) ((KM.out _ (Mod.drew (Mod.refl _ _))).1) ?_
 simp only [planLL, getO]
 iterate 5 (refine planL_pure (v := ?_) (by rfl) (fun wS => ?_) ?_; rotate_left; (focus (go_simp; (try with_reducible rfl); done)); (try simp only [Act.put, List.setIfInBounds_toArray, List.set_cons_zero, List.set_cons_succ]))
 iterate 2 (refine planL_take (v := ?_) (by rfl) (fun wS hS => ?_) ?_; rotate_left; (focus ((try dsimp only at hS); go_simp; (try with_reducible rfl); done)); (try simp only [Act.put, List.setIfInBounds_toArray, List.set_cons_zero, List.set_cons_succ]))
 refine planL_call (fun K hK => ?_)
 go_simp
 skip
 refine hK.out _ _ ((KM.out _ (Ext.mod (Mod.drew (Mod.alloc (Mod.refl _ _) _)) _)).1) ?_
 clear hK K
 (try simp only [Act.put, List.setIfInBounds_toArray, List.set_cons_zero, List.set_cons_succ])
 refine planL_call (fun K hK => ?_)
 refine step_app IEv rfl (.tmp 10) (.tmp 12) rfl (HR.out.log.row.ext (HX.out.2.2.trans (Mod.drew (Mod.alloc (Mod.refl _ _) _)))) (built_sl (n := 1) (g := w7.heap.size) (e := 70) (cs := evArr e v) (by rw [heap_drew, heap_alloc_if]; exact if_pos rfl) rfl (by simp only [maxLen]; omega)) H1.out (by simp [Act.eval, HHV.out]) (by simp [Act.eval]) (by omega) (by simp only [maxLen]; omega) ?_; intro hv9 w9 ol9 gr9 fr9 nn9; obtain ⟨la9, lc9, hlv9, _⟩ := ol9.sl.shape; subst hlv9; have M9 : Mod (fun q => hv.ownBlock = some q) w7 w9 := Mod.grown (Mod.drew (Mod.alloc (Mod.refl _ _) _)) (HHV.out.symm ▸ gr9) (fun q h => .inl h); obtain ⟨⟨e3, -⟩, ef3⟩ := KM.out _ M9
 refine hK.out _ _ ((KM.out _ M9).1) ?_
 clear hK K
 (try simp only [Act.put, List.setIfInBounds_toArray, List.set_cons_zero, List.set_cons_succ])
 iterate 3 (refine planL_pure (v := ?_) (by rfl) (fun wS => ?_) ?_; rotate_left; (focus (go_simp; (try with_reducible rfl); done)); (try simp only [Act.put, List.setIfInBounds_toArray, List.set_cons_zero, List.set_cons_succ]))
 refine planL_late (fun K hK => ?_)
 go_simp
 refine hK.out _ _ ?_
 clear hK K
 (try simp only [Act.put, List.setIfInBounds_toArray, List.set_cons_zero, List.set_cons_succ])
 refine planL_nil ?_
 have F9 : ∀ q, (Value.slice la9 (s.L.ev.length + 1) lc9).ownBlock = some q → z.hv.ownBlock = some q ∨ w.heap.size ≤ q := fun q hq => (fr9 q hq).imp id (fun h => by have h1 := HX.out.2.2.size; (try simp only [World.size_alloc, World.size_drew] at h); omega)
 obtain ⟨P1, P2⟩ := HR.out.push HX.out.2.2 HO.out.1 HO.out.2.1 HO.out.2.2 (HHV.out ▸ M9) ol9 F9
 obtain ⟨W, hW⟩ : ∃ W, W = w9.setCell ⟨z.g, 3, none⟩ (.slice la9 (s.L.ev.length + 1) lc9) := ⟨_, rfl⟩
 rw [← hW] at P1 P2
 rw [show w9.setCell ⟨g, 3, none⟩ (.slice la9 (s.L.ev.length + 1) lc9) = W by rw [hW, HG.out]]
 obtain ⟨_, _, _, c3, _⟩ := P1.cells
 have c3' : W.cell? ⟨g, 3, none⟩ = some (.slice la9 (s.L.ev.length + 1) lc9) := by rw [HG.out]; exact c3
 have HP := Lib.hid (And.intro P1 (And.intro P2 F9))
 clear c3 P1 P2 F9 hW e3 ef3 gr9 fr9 ol9 nn9 M9
 have w1 : IntKind.i64.wrap (((s.L.ev.length + 1 : Nat) : Int) - 1) = (s.L.ev.length : Int) := IntWalk.i64_in _ (by omega) |>.trans (by omega)
 go_wp2_with fail
 go_ret
 obtain ⟨P1, P2, F9⟩ := HP.out
 exact ⟨rfl, _, P1, P2, F9⟩
end Go.Proofs.YtbhocahmhmafmaaGreat
namespace Go.Ren
set_option linter.unusedVariables false
theorem wordN_take {l : List UInt8} {k : Nat} (h : k < l.length) : wordN (l.take (k + 1)) = wordN (l.take k) + l[k].toNat * 2 ^ (8 * k) := by
 induction k generalizing l with
 | zero =>
  cases l with
  | nil => simp at h
  | cons b l => simp [wordN]
 | succ k ih =>
  cases l with
  | nil => simp at h
  | cons b l =>
   simp only [List.length_cons] at h
   rw [List.take_succ_cons, List.take_succ_cons]
   unfold wordN
   rw [ih (by omega), List.getElem_cons_succ, Nat.mul_add, show 8 * (k + 1) = 8 + 8 * k by omega, Nat.pow_add]
   simp only [show (2 : Nat) ^ 8 = 256 from rfl]
   rw [← Nat.add_assoc]
   congr 1
   rw [← Nat.mul_assoc, ← Nat.mul_assoc, Nat.mul_comm 256]
theorem wordP_eq (l : List UInt8) : ∀ k, k ≤ l.length → wordP l k = wordN (l.take k)
 | 0, _ => by simp [wordP, wordN]
 | k + 1, h => by
  have ih := wordP_eq l k (by omega)
  have hl := wordN_lt (l.take k)
  rw [List.length_take, Nat.min_eq_left (by omega)] at hl
  unfold wordP
  rw [ih, wordN_take (by omega), List.getElem?_eq_getElem (by omega : k < l.length)]
  simp only [Option.getD_some]
  rw [Nat.or_comm, ← Nat.shiftLeft_add_eq_or_of_lt hl, Nat.shiftLeft_eq, Nat.add_comm]
theorem szK_kindC {size : Int} (h : size = 1 ∨ size = 2 ∨ size = 4 ∨ size = 8) : szK (kindC size) = size.toNat ∧ szK (kindC size) ≠ 0 := by
 rcases h with rfl | rfl | rfl | rfl <;> decide
theorem wordK_eq {size : Int} (h : size = 1 ∨ size = 2 ∨ size = 4 ∨ size = 8) {l : List UInt8} (hl : l.length = size.toNat) : wordK (kindC size) l = (wordN l, true) := by
 obtain ⟨h1, h2⟩ := szK_kindC h
 unfold wordK
 rw [if_neg (by omega), wordP_eq l _ (Nat.le_refl _), List.take_length]
end Go.Ren
namespace Go.Proofs.YtbhocahmhmafmaaGreat
open Go.Ren Go.RowKit
set_option linter.unusedVariables false
theorem ShIn.note_fp {w w1 w' : World} {z : ShV} {s : Shm} {e : Ev} {v : Vs} {hv' : Value} (h : ShIn w z s) (x : Ext w w1) (hv : ∀ k, EvFp v k → w.heap.size ≤ k) (m1 : Mod (fun k => k = z.g ∨ z.hv.ownBlock = some k) w1 w') (f1 : ∀ k, hv'.ownBlock = some k → z.hv.ownBlock = some k ∨ w1.heap.size ≤ k) :
 Mod (z.Fp s) w w' ∧ ∀ k, ({ z with hv := hv', V := evUpd z.V s.L.ev.length v } : ShV).Fp (shPush s e) k → z.Fp s k ∨ w.heap.size ≤ k := by
 refine ⟨(x.mod (z.Fp s)).trans' m1 (fun k hk => .inl (.inl (hk.elim .inl (fun h2 => .inr (.inr (.inl h2)))))), fun k hk => ?_⟩
 rcases hk with (hk | hk | hk | hk | ⟨i, hi, hk⟩) | hk | hk
 · exact .inl (.inl (.inl hk))
 · exact .inl (.inl (.inr (.inl hk)))
 · rcases f1 k hk with h2 | h2
   · exact .inl (.inl (.inr (.inr (.inl h2))))
   · exact .inr (Nat.le_trans x.size h2)
 · exact .inl (.inl (.inr (.inr (.inr (.inl hk)))))
 · have hi' : i < s.L.ev.length + 1 := by have : i < (s.L.ev ++ [e]).length := hi; simpa using this
   by_cases e0 : i = s.L.ev.length
   · have e2 : evUpd z.V s.L.ev.length v i = v := by simp [evUpd, e0]
     have hk' : EvFp (evUpd z.V s.L.ev.length v i) k := hk
     rw [e2] at hk'
     exact .inr (hv k hk')
   · have e2 : evUpd z.V s.L.ev.length v i = z.V i := by simp [evUpd, e0]
     have hk' : EvFp (evUpd z.V s.L.ev.length v i) k := hk
     rw [e2] at hk'
     exact .inl (.inl (.inr (.inr (.inr (.inr ⟨i, by omega, hk'⟩)))))
 · exact .inl (.inr (.inl hk))
 · exact .inl (.inr (.inr hk))
theorem ShIn.note_to {w w1 w' : World} {z : ShV} {s : Shm} {e : Ev} {v : Vs} {r : Ending} (h : ShIn w z s) (x : Ext w w1) (hv : ∀ k, EvFp v k → w.heap.size ≤ k) (P : NotePost z s e v w1 r w') : ShTo z s (shPush s e) w w' := by
 obtain ⟨_, hv', h1, m1, f1⟩ := P
 obtain ⟨M, F⟩ := h.note_fp (e := e) x hv m1 f1
 exact ⟨{ z with hv := hv', V := evUpd z.V s.L.ev.length v }, rfl, h1, M, F⟩
theorem ShQ.fp {w w' : World} {z : ShV} {s s' : Shm} {SQ' : Nat → Nat → Prop} (hn : s'.n = s.n) (hr : s'.room = s.room) (hl : s'.L = s.L) (m1 : Mod (fun k => z.U k ∨ (0 < s.room ∧ ∃ i, i < s.n ∧ z.SQ i k)) w w') (f1 : ∀ i k, i < s.n → SQ' i k → z.SQ i k ∨ w.heap.size ≤ k) :
 Mod (z.Fp s) w w' ∧ ∀ k, ({ z with SQ := SQ' } : ShV).Fp s' k → z.Fp s k ∨ w.heap.size ≤ k := by
 refine ⟨m1.weak (fun k hk => .inl (.inr (hk.imp id id))), fun k hk => ?_⟩
 rcases hk with hk | hk | ⟨h0, i, hi, hk⟩
 · have hk' : z.Lf s'.L.ev.length k := hk
   rw [hl] at hk'
   exact .inl (.inl hk')
 · exact .inl (.inr (.inl hk))
 · rw [hn] at hi
   rw [hr] at h0
   exact (f1 i k hi hk).imp (fun h2 => .inr (.inr ⟨h0, i, hi, h2⟩)) id
theorem note_own {w w' : World} {z : ShV} {s : Shm} {e : Ev} {v : Vs} {r : Ending} (P : NotePost z s e v w r w') : EvOwn w' e v := by
 obtain ⟨_, hv', h1, _, _⟩ := P
 have h2 := h1.log.ev s.L.ev.length (by show _ < (s.L.ev ++ [e]).length; simp)
 have e1 : evn (shPush s e).L.ev s.L.ev.length = e := evn_at
 have e2 : evUpd z.V s.L.ev.length v s.L.ev.length = v := by simp [evUpd]
 rw [e1] at h2
 have h3 : EvOwn w' e (evUpd z.V s.L.ev.length v s.L.ev.length) := h2
 rwa [e2] at h3
theorem shcheck_at {g : Nat} {w : World} {z : ShV} {s : Shm} (hg : g = z.g) (h : ShIn w z s) (ag k a size : Int) : Calls Tryz.prog 36 #[ptr g, .int .i64 ag, .int .i64 k, .int .i64 a, .int .i64 size] w fun e w' => e = .returned (.int .i64 (shC s ag k a size)) ∧ w = w' := by subst hg; exact shcheck_any w z s h ag k a size
theorem shfull_at {g : Nat} {w : World} {z : ShV} {s : Shm} (hg : g = z.g) (h : ShIn w z s) : Calls Tryz.prog 37 #[ptr g] w fun e w' => e = .returned (.bool (decide (1000 ≤ s.L.ev.length))) ∧ w = w' := by subst hg; exact shfull_any w z s h
theorem shdrain_at {g : Nat} {w : World} {z : ShV} {s : Shm} (hg : g = z.g) (h : ShIn w z s) {ag : Int} (ha : ∃ i : Nat, ag = i ∧ i < s.n) : Calls Tryz.prog 41 #[ptr g, .int .i64 ag] w fun r w' => r = .returned (.tuple #[]) ∧ ShTo z s (shDrain s ag) w w' := by
 obtain ⟨i, rfl, hi⟩ := ha
 subst hg
 exact shdrain_any w z s h i hi
theorem shdrain_qat {g : Nat} {w : World} {z : ShV} {s : Shm} (h : ShIn w z s) (hg : g = z.g) {ag : Int} (ha : ∃ i : Nat, ag = i ∧ i < s.n) : Calls Tryz.prog 41 #[ptr g, .int .i64 ag] w fun r w' => r = .returned (.tuple #[]) ∧ ShQ z s (shDrain s ag) w w' := by
 obtain ⟨i, rfl, hi⟩ := ha
 subst hg
 exact shdrain_q w z s h i hi
theorem shnote_at {g : Nat} {w : World} {z : ShV} {s : Shm} (hg : g = z.g) (h : ShIn w z s) {e : Ev} {v : Vs} (ho : EvOwn w e v) (hd : ∀ k, EvFp v k → ¬ z.Fp s k) (ok : ShOk (shPush s e)) : Calls Tryz.prog 40 #[ptr g, evV e v] w (NotePost z s e v w) := by subst hg; exact shnote_any w z s h e v ho hd ok
theorem shagent_at {g : Nat} {w : World} {z : ShV} {s : Shm} (hg : g = z.g) (h : ShIn w z s) (a : Int) : Calls Tryz.prog 92 #[ptr g, .int .i64 a] w fun e w' => e = .returned (.bool (agB s a)) ∧ w = w' := by subst hg; exact shagent_any w z s h a
theorem ShTo.at_ {g : Nat} {z : ShV} {s s1 : Shm} {w w1 : World} (hg : g = z.g) (h : ShTo z s s1 w w1) : ∃ z1, g = z1.g ∧ ShIn w1 z1 s1 ∧ Mod (z.Fp s) w w1 ∧ ∀ k, z1.Fp s1 k → z.Fp s k ∨ w.heap.size ≤ k := by
 obtain ⟨z1, e1, h1, m1, f1⟩ := h
 exact ⟨z1, hg.trans e1.symm, h1, m1, f1⟩
theorem ShTo.then {g : Nat} {z z1 : ShV} {s s1 s2 : Shm} {w w1 w2 : World} (hg : g = z.g) (hz : g = z1.g) (m : Mod (z.Fp s) w w1) (f : ∀ k, z1.Fp s1 k → z.Fp s k ∨ w.heap.size ≤ k) (h2 : ShTo z1 s1 s2 w1 w2) : ShTo z s s2 w w2 := ShTo.trans (hz.symm.trans hg) m f h2
theorem ShIn.at_cells {g : Nat} {w : World} {z : ShV} {s : Shm} (h : ShIn w z s) (hg : g = z.g) : w.cell? ⟨g, 0, none⟩ = some (.int .i64 (s.n : Int)) ∧ w.cell? ⟨g, 1, none⟩ = some z.m ∧ w.cell? ⟨g, 2, none⟩ = some z.qv ∧ w.cell? ⟨g, 3, none⟩ = some z.hv ∧ w.cell? ⟨g, 4, none⟩ = some z.pv := by subst hg; exact h.cells
theorem ShIn.qtest {w : World} {z : ShV} {s : Shm} (h : ShIn w z s) : ∃ B : Bool, (∀ w', (binOp .neq 73 z.qv (.slice none 0 0)).run Tryz.prog w' = .ok (.bool B) w') ∧ (∀ w', (binOp .eql 73 z.qv (.slice none 0 0)).run Tryz.prog w' = .ok (.bool (!B)) w') ∧ (B = false → s.room = 0) ∧ (B = true → 0 < s.room) := by
 rcases Nat.eq_zero_or_pos s.room with h0 | h0
 · rw [h.noq h0]
   exact ⟨false, (Own.nil w 76 1).sl.run_notnil IQS.und, (Own.nil w 76 1).sl.run_nil IQS.und, fun _ => h0, fun h => (by cases h)⟩
 · have n1 := (h.qrow h0).sl.run_notnil (P := Tryz.prog) IQS.und
   have n2 := (h.qrow h0).sl.run_nil (P := Tryz.prog) IQS.und
   rw [h.qnil h0] at n1 n2
   exact ⟨true, n1, n2, fun h => (by cases h), fun _ => h0⟩
theorem fp_apart {w : World} {z : ShV} {s : Shm} (h : ShIn w z s) {k : Nat} (hk : w.heap.size ≤ k) : ¬ z.Fp s k := fun h1 => by have := h.lt h1; omega
end Go.Proofs.YtbhocahmhmafmaaGreat
namespace Go.Proofs.YtbhocahmhmafmaaGreat
open Go.Ren Go.RowKit
set_option linter.unusedVariables false
def ActPost (z : ShV) (s : Shm) (r : (Nat × Int) × Shm) (w : World) (e : Ending) (w' : World) : Prop := e = .returned (.tuple #[.int .u64 (r.1.1 : Int), .int .i64 r.1.2]) ∧ ShTo z s r.2 w w'
structure LoadMid (s : Shm) (ag k at_ size : Int) (w0 w : World) (v u : Value) : Prop where
 b : Own w 5 1 v (ldB s ag k at_ size).length ((ldB s ag k at_ size).map bv)
 y : Own w 3 1 u (ldY s ag k at_ size).length ((ldY s ag k at_ size).map iv)
 x : Ext w0 w
 fb : ∀ q, v.ownBlock = some q → w0.heap.size ≤ q
 fy : ∀ q, u.ownBlock = some q → w0.heap.size ≤ q
theorem over_flat {s : Shm} {ag k at_ size : Int} (h : quB s ag = []) : ldB s ag k at_ size = breadB s.M k at_ size ∧ ldY s ag k at_ size = breadY s.M k at_ size := by
 unfold ldB ldY
 rw [h]
 unfold qoverB qoverY
 constructor <;> split <;> rfl
set_option maxRecDepth 100000 in
set_option maxHeartbeats 1600000 in
theorem shload_any (w : World) (z : ShV) (s : Shm) (h : ShIn w z s) (ag k at_ size : Int) (seq nt : Bool) :
 Calls Tryz.prog 30 #[ptr z.g, .int .i64 ag, .int .i64 k, .int .i64 at_, .int .i64 size, .bool seq, .bool nt] w (ActPost z s (shLoad s ag k at_ size seq nt) w) := by
 have HS := Lib.hid h
 obtain ⟨C, hC⟩ : ∃ C, C = shC s ag k at_ size := ⟨_, rfl⟩
 obtain ⟨g, hg⟩ : ∃ g, g = z.g := ⟨_, rfl⟩
 by_cases hc : C = 0
 case neg =>
  have HR : Hid (shLoad s ag k at_ size seq nt = ((0, C), s)) := Lib.hid (by
   have e : shE s ag k at_ size 1 = C := by unfold shE; rw [← hC, if_pos hc]
   unfold shLoad; rw [e, if_pos hc])
  have hb : (C != 0) = true := by simpa using hc
  have HC := Lib.hid hC
  have HG := Lib.hid hg
  rw [HR.out, ← hg]
  clear hc hC hg h
  go_enter Tryz.func30, Tryz.ntmps30
  go_wp2_with fail
  refine (shcheck_at HG.out HS.out ag k at_ size).mono ?_
  rintro e w' ⟨rfl, rfl⟩
  rw [← HC.out]
  go_wp2_with fail
  go_ret2
  exact ⟨rfl, HS.out.to (Mod.refl _ _)⟩
 case pos =>
  have hC0 : shC s ag k at_ size = 0 := by rw [← hC]; exact hc
  clear hC hc C
  by_cases hf : 1000 ≤ s.L.ev.length
  · have HR : Hid (shLoad s ag k at_ size seq nt = ((0, 11), s)) := Lib.hid (by
     have e : shE s ag k at_ size 1 = 11 := by unfold shE; rw [hC0, if_neg (by simp), if_neg (by omega), if_pos hf]
     unfold shLoad; rw [e, if_pos (by omega)])
    have HC := Lib.hid (And.intro hC0 hf)
    have HG := Lib.hid hg
    rw [HR.out, ← hg]
    clear hC0 hf hg h
    go_enter Tryz.func30, Tryz.ntmps30
    go_wp2_with fail
    refine (shcheck_at HG.out HS.out ag k at_ size).mono ?_
    rintro e w' ⟨rfl, rfl⟩
    rw [HC.out.1]
    go_wp2_with fail
    refine (shfull_at HG.out HS.out).mono ?_
    rintro e w' ⟨rfl, rfl⟩
    rw [decide_eq_true HC.out.2]
    go_wp2_with fail
    go_ret2
    exact ⟨rfl, HS.out.to (Mod.refl _ _)⟩
  · have hA := shC_0 hC0
    obtain ⟨i, hi, hin⟩ := hA.ag
    have HR : Hid (shLoad s ag k at_ size seq nt = ((wordN (ldB (shSeq s ag seq) ag k at_ size), 0), shLd (shSeq s ag seq) ag k at_ size seq nt)) := Lib.hid (by
     have e : shE s ag k at_ size 1 = 0 := by unfold shE; rw [hC0, if_neg (by simp), if_neg (by omega), if_neg hf]
     unfold shLoad; rw [e, if_neg (by simp)])
    have HA := Lib.hid (And.intro hA (And.intro hin hi))
    have HC := Lib.hid (And.intro hC0 hf)
    have HG := Lib.hid hg
    rw [HR.out, ← hg]
    clear hC0 hf hg h hA hin hi
    -- the walk to the read
    obtain ⟨s1, hs1⟩ : ∃ s1, s1 = shSeq s ag seq := ⟨_, rfl⟩
    have HS1 := Lib.hid hs1
    rw [← hs1]
    clear hs1
    go_enter Tryz.func30, Tryz.ntmps30
    go_wp2_with fail
    refine (shcheck_at HG.out HS.out ag k at_ size).mono ?_
    rintro e w' ⟨rfl, rfl⟩
    rw [HC.out.1]
    go_wp2_with fail
    refine (shfull_at HG.out HS.out).mono ?_
    rintro e w' ⟨rfl, rfl⟩
    rw [decide_eq_false HC.out.2]
    go_upto_if 33 with fail
    go_cut [15] (fun s15 wx => s15 = .int .i64 0 ∧ ShTo z s s1 w wx)
    case first =>
     cases seq with
     | false =>
      go_wp2_with fail
      go_meet
      exact ⟨rfl, by rw [HS1.out]; exact HS.out.to (Mod.refl _ _)⟩
     | true =>
      go_wp2_with fail
      refine (shdrain_at HG.out HS.out ⟨i, HA.out.2.2, HA.out.2.1⟩).mono ?_
      rintro e w1 ⟨rfl, P⟩
      have HP := Lib.hid P
      clear P
      go_wp2_with fail
      go_meet
      exact ⟨rfl, by rw [HS1.out]; exact HP.out⟩
    case rest =>
     obtain ⟨rfl, P1⟩ := hcut
     obtain ⟨z1, e1, h1, m1, f1⟩ := P1.at_ HG.out
     have c1 := (h1.at_cells e1).2.1
     have H1 := Lib.hid (And.intro e1 (And.intro h1 (And.intro m1 f1)))
     clear P1 e1 h1 m1 f1
     go_wp2_with fail
     refine (read_any _ _ _ _ H1.out.2.1.blks k at_ size).mono ?_
     rintro e w2 ⟨v, u, rfl, ov, ou, x2, fv, fu⟩
     have HV := Lib.hid (And.intro ov (And.intro ou (And.intro x2 (And.intro fv fu))))
     have HK1 : Hid (ShOk s1 ∧ Asked s1 ag k at_ size ∧ s1.L = s.L ∧ s1.n = s.n) := Lib.hid (by
      rw [HS1.out]
      have h2 := HS.out.ok.seq_ (seq := seq) HA.out.1
      exact ⟨h2.1, h2.2, shSeq_L _ _ _, by unfold shSeq; split <;> rfl⟩)
     have h2 := H1.out.2.1.ext x2
     have H2 := Lib.hid h2
     have c2 := (h2.at_cells H1.out.1).2.2.1
     clear ov ou x2 fv fu h2 c1
     obtain ⟨B, nn, -, hB0, hB1⟩ := H2.out.qtest
     have HB := Lib.hid (And.intro hB0 hB1)
     have gd := run_guard_nil (P := Tryz.prog) z1.qv
     clear hB0 hB1
     go_upto_if 53 with fail
     go_cut [17, 18] (fun s17 s18 wx => ∃ v' u', v' = s17 ∧ u' = s18 ∧ LoadMid s1 ag k at_ size wc wx v' u')
     case first =>
      cases B with
      | false =>
       have h0 := HB.out.1 rfl
       have HQ : Hid (quB s1 ag = []) := Lib.hid (by rw [HA.out.2.2]; exact flat_q HK1.out.1 h0 i (by have := HA.out.2.1; have := HK1.out.2.2.2; omega))
       clear h0
       go_wp2_with fail
       go_meet
       obtain ⟨ov, ou, x2, fv, fu⟩ := HV.out
       obtain ⟨e3, e4⟩ := over_flat (s := s1) (k := k) (at_ := at_) (size := size) HQ.out
       exact ⟨v, u, rfl, rfl, by rw [e3]; exact ov, by rw [e4]; exact ou, x2, fv, fu⟩
      | true =>
       have h0 := HB.out.2 rfl
       have hi2 : i < s1.n := by have := HA.out.2.1; have := HK1.out.2.2.2; omega
       have ix := (H2.out.qrow h0).sl.run_idx (P := Tryz.prog) IQS.und IQS.size .i64 i hi2
       rw [Nat.mul_one, ← HA.out.2.2] at ix
       have cq := H2.out.qcell h0 hi2
       have HQ : Hid (QueueAt w2 (z1.qs i) s1.room (quB s1 ag) (z1.SQ i)) := Lib.hid (by rw [HA.out.2.2]; exact H2.out.qat h0 i hi2)
       clear h0 hi2
       go_wp2_with fail
       refine (qover_any _ _ _ _ _ HQ.out k at_ (HK1.out.2.1.rng HK1.out.1).2.2.1 v u _ _ HV.out.1.sl ⟨HV.out.2.1.sl, breadY_i HK1.out.1.bk⟩ (by have h1 := bread_len20 HK1.out.1.bk (k := k) (a := at_) (n := size); have h2 := HK1.out.2.1.sz; omega) (by have h1 := bread_len20 HK1.out.1.bk (k := k) (a := at_) (n := size); have h2 := HK1.out.2.1.sz; omega)).mono ?_
       rintro e w3 ⟨v', u', rfl, ov', ou', x3, fv', fu'⟩
       have HO := Lib.hid (And.intro ov' (And.intro ou' (And.intro x3 (And.intro fv' fu'))))
       clear ov' ou' x3 fv' fu' c2 cq ix
       go_wp2_with fail
       go_meet
       obtain ⟨ov', ou', x3, fv', fu'⟩ := HO.out
       have x2 := HV.out.2.2.1
       exact ⟨v', u', rfl, rfl, ov', ou', x2.trans x3, fun q hq => Nat.le_trans x2.size (fv' q hq), fun q hq => Nat.le_trans x2.size (fu' q hq)⟩
     case rest =>
      obtain ⟨v', u', rfl, rfl, M⟩ := hcut
      have HM := Lib.hid M
      have H3 := Lib.hid (H1.out.2.1.ext M.x)
      have HF := Lib.hid (ld_facts HK1.out.1 HK1.out.2.1)
      have HW : Hid (wordK (kindC size) (ldB s1 ag k at_ size) = (wordN (ldB s1 ag k at_ size), true)) := Lib.hid (wordK_eq HK1.out.2.1.sz HF.out.1)
      have HOK : Hid (ShOk (shLd s1 ag k at_ size seq nt)) := Lib.hid (HK1.out.1.ld HK1.out.2.1 (by have h1 := HK1.out.2.2.1; have h2 := HC.out.2; rw [h1]; omega))
      obtain ⟨la1, lc1, hv1, -⟩ := M.b.sl.shape
      obtain ⟨la2, lc2, hv2, -⟩ := M.y.sl.shape
      clear M c2 nn gd
      subst hv1 hv2
      go_wp2_with fail
      refine (shnote_at (v := ⟨_, .slice none 0 0, _⟩) H1.out.1 H3.out (e := ⟨ag, 1, seq, nt, k, at_, size, ldB s1 ag k at_ size, [], ldY s1 ag k at_ size⟩) ⟨HM.out.b, Own.nil _ _ _, HM.out.y⟩ (fun q hq => fp_apart H1.out.2.1 (by rcases hq with hq | hq | hq; exact HM.out.fb q hq; cases hq; exact HM.out.fy q hq)) HOK.out).mono ?_
      rintro e w4 P4
      obtain rfl := P4.1
      have HP4 := Lib.hid P4
      clear P4
      go_wp2_with fail
      refine (shkind_any _ size).mono ?_
      rintro e w5 ⟨rfl, rfl⟩
      go_wp2_with fail
      refine (eword_any _ (kindC size) _ (ldB s1 ag k at_ size) (note_own HP4.out).rd.sl).mono ?_
      rintro e w5 ⟨rfl, rfl⟩
      rw [HW.out]
      go_wp2_with fail
      go_ret2
      exact ⟨rfl, (ShTo.then HG.out H1.out.1 H1.out.2.2.1 H1.out.2.2.2 (H1.out.2.1.note_to HM.out.x (fun q hq => by rcases hq with hq | hq | hq; exact HM.out.fb q hq; cases hq; exact HM.out.fy q hq) HP4.out))⟩
end Go.Proofs.YtbhocahmhmafmaaGreat
namespace Go.Proofs.YtbhocahmhmafmaaGreat
open Go.Ren Go.RowKit
set_option linter.unusedVariables false
def StorePost (z : ShV) (s : Shm) (r : Int × Shm) (w : World) (e : Ending) (w' : World) : Prop := e = .returned (.int .i64 r.1) ∧ ShTo z s r.2 w w'
theorem q_own {w : World} {z : ShV} {s : Shm} {e : Ev} {v : Vs} {hv' : Value} {SQ' : Nat → Nat → Prop} {s3 : Shm} (hl : s3.L = (shPush s e).L) (h3 : ShIn w { z with hv := hv', V := evUpd z.V s.L.ev.length v, SQ := SQ' } s3) : EvOwn w e v ∧ ∀ k, EvFp v k → ¬ z.U k := by
 have h2 := h3.log.ev s.L.ev.length (by rw [hl]; show _ < (s.L.ev ++ [e]).length; simp)
 have e1 : evn s3.L.ev s.L.ev.length = e := by rw [hl]; exact evn_at
 have e2 : evUpd z.V s.L.ev.length v s.L.ev.length = v := by simp [evUpd]
 rw [e1] at h2
 have h4 : EvOwn w e (evUpd z.V s.L.ev.length v s.L.ev.length) := h2
 rw [e2] at h4
 refine ⟨h4, fun k hk => h3.lu k (.inr (.inr (.inr (.inr ⟨s.L.ev.length, by rw [hl]; show _ < (s.L.ev ++ [e]).length; simp, ?_⟩))))⟩
 show EvFp (evUpd z.V s.L.ev.length v s.L.ev.length) k
 rw [e2]; exact hk
set_option maxRecDepth 100000 in
set_option maxHeartbeats 1600000 in
theorem shstore_any (w : World) (z : ShV) (s : Shm) (h : ShIn w z s) (ag k pa size : Int) (m : Nat) (hm : m < 18446744073709551616) (seq nt : Bool) :
 Calls Tryz.prog 11 #[ptr z.g, .int .i64 ag, .int .i64 k, .int .i64 pa, .int .i64 size, .int .u64 (m : Int), .bool seq, .bool nt] w (StorePost z s (shStore s ag k pa size m seq nt) w) := by
 have HS := Lib.hid h
 have HM := Lib.hid hm
 clear hm
 obtain ⟨C, hC⟩ : ∃ C, C = shC s ag k pa size := ⟨_, rfl⟩
 obtain ⟨g, hg⟩ : ∃ g, g = z.g := ⟨_, rfl⟩
 by_cases hc : C = 0
 case neg =>
  have HR : Hid (shStore s ag k pa size m seq nt = (C, s)) := Lib.hid (by
   have e : shE s ag k pa size 1 = C := by unfold shE; rw [← hC, if_pos hc]
   unfold shStore; rw [e, if_pos hc])
  have hb : (C != 0) = true := by simpa using hc
  have HC := Lib.hid hC
  have HG := Lib.hid hg
  rw [HR.out, ← hg]
  clear hc hC hg h
  go_enter Tryz.func11, Tryz.ntmps11
  go_wp2_with fail
  refine (shcheck_at HG.out HS.out ag k pa size).mono ?_
  rintro e w' ⟨rfl, rfl⟩
  rw [← HC.out]
  go_wp2_with fail
  go_ret
  exact ⟨rfl, HS.out.to (Mod.refl _ _)⟩
 case pos =>
  have hC0 : shC s ag k pa size = 0 := by rw [← hC]; exact hc
  clear hC hc C
  by_cases hf : 1000 ≤ s.L.ev.length
  · have HR : Hid (shStore s ag k pa size m seq nt = (11, s)) := Lib.hid (by
     have e : shE s ag k pa size 1 = 11 := by unfold shE; rw [hC0, if_neg (by simp), if_neg (by omega), if_pos hf]
     unfold shStore; rw [e, if_pos (by omega)])
    have HC := Lib.hid (And.intro hC0 hf)
    have HG := Lib.hid hg
    rw [HR.out, ← hg]
    clear hC0 hf hg h
    go_enter Tryz.func11, Tryz.ntmps11
    go_wp2_with fail
    refine (shcheck_at HG.out HS.out ag k pa size).mono ?_
    rintro e w' ⟨rfl, rfl⟩
    rw [HC.out.1]
    go_wp2_with fail
    refine (shfull_at HG.out HS.out).mono ?_
    rintro e w' ⟨rfl, rfl⟩
    rw [decide_eq_true HC.out.2]
    go_wp2_with fail
    go_ret
    exact ⟨rfl, HS.out.to (Mod.refl _ _)⟩
  · have hA := shC_0 hC0
    obtain ⟨i, hi, hin⟩ := hA.ag
    have HR : Hid (shStore s ag k pa size m seq nt = (0, shSt s ag k pa size m seq nt)) := Lib.hid (by
     have e : shE s ag k pa size 1 = 0 := by unfold shE; rw [hC0, if_neg (by simp), if_neg (by omega), if_neg hf]
     unfold shStore; rw [e, if_neg (by simp)])
    have HA := Lib.hid (And.intro hA (And.intro hin hi))
    have HC := Lib.hid (And.intro hC0 hf)
    have HG := Lib.hid hg
    obtain ⟨L, hL⟩ : ∃ L, L = bytesN size.toNat m := ⟨_, rfl⟩
    have HL : Hid (L = bytesN size.toNat m ∧ L.length = size.toNat ∧ size.toNat ≤ 8) := Lib.hid ⟨hL, by rw [hL]; exact bytesN_len _ _, by have := hA.sz; omega⟩
    have HK : Hid (bytesN (szK (kindC size)) m = L) := Lib.hid (by rw [(szK_kindC hA.sz).1, hL])
    have HOK : Hid (ShOk (shPush s (stEv ag k pa size m seq nt))) := Lib.hid (HS.out.ok.st0 hA (by omega))
    rw [HR.out, ← hg]
    clear hC0 hf hg h hA hin hi hL
    go_enter Tryz.func11, Tryz.ntmps11
    go_wp2_with fail
    refine (shcheck_at HG.out HS.out ag k pa size).mono ?_
    rintro e w' ⟨rfl, rfl⟩
    rw [HC.out.1]
    go_wp2_with fail
    refine (shfull_at HG.out HS.out).mono ?_
    rintro e w' ⟨rfl, rfl⟩
    rw [decide_eq_false HC.out.2]
    go_wp2_with fail
    refine (shkind_any _ size).mono ?_
    rintro e w5 ⟨rfl, rfl⟩
    go_wp2_with fail
    refine (ebytes_any _ (kindC size) m HM.out).mono ?_
    rintro e w1 ⟨vb, rfl, ob, x1, fb⟩
    rw [HK.out, List.length_map] at ob
    obtain ⟨la, lc, hvb, -⟩ := ob.sl.shape
    subst hvb
    have H1 := Lib.hid (And.intro ob (And.intro x1 fb))
    clear ob x1 fb
    go_wp2_with fail
    refine (shnote_at (v := ⟨.slice none 0 0, _, .slice none 0 0⟩) HG.out (HS.out.ext H1.out.2.1) (e := stEv ag k pa size m seq nt) ⟨Own.nil _ _ _, by show Own w1 _ 1 (.slice la L.length lc) (bytesN size.toNat m).length ((bytesN size.toNat m).map bv); rw [← HL.out.1]; exact H1.out.1, Own.nil _ _ _⟩ (fun q hq => fp_apart HS.out (by rcases hq with hq | hq | hq; cases hq; exact H1.out.2.2 q hq; cases hq)) HOK.out).mono ?_
    rintro e w2 P4
    obtain rfl := P4.1
    obtain ⟨hv', h2, m2, f2⟩ := P4.2
    obtain ⟨M2, F2⟩ := HS.out.note_fp (e := stEv ag k pa size m seq nt) (v := ⟨.slice none 0 0, .slice la L.length lc, .slice none 0 0⟩) H1.out.2.1 (fun q hq => (by rcases hq with hq | hq | hq; cases hq; exact H1.out.2.2 q hq; cases hq)) m2 f2
    have HP := Lib.hid (And.intro h2 (And.intro M2 F2))
    obtain ⟨B, -, (nn : ∀ w', (binOp .eql 73 z.qv (.slice none 0 0)).run Tryz.prog w' = .ok (.bool (!B)) w'), hB0, hB1⟩ := h2.qtest
    have HB := Lib.hid (And.intro hB0 hB1)
    have gd := run_guard_nil (P := Tryz.prog) z.qv
    have c2 : w2.cell? ⟨g, 2, none⟩ = some z.qv := (h2.at_cells HG.out).2.2.1
    clear h2 m2 f2 M2 F2 P4 hB0 hB1
    rcases (by cases seq <;> cases B <;> simp : seq = true ∨ (seq = false ∧ B = false) ∨ (seq = false ∧ B = true)) with rfl | ⟨rfl, rfl⟩ | ⟨rfl, rfl⟩
    case inr.inr =>
     have h0 := HB.out.2 rfl
     have hi2 : i < (shPush s (stEv ag k pa size m false nt)).n := HA.out.2.1
     have ix : ∀ w', (Instr.indexAt 73 z.qv (.int .i64 ag)).run Tryz.prog w' = .ok (.pointer (some (at_ z.qv i))) w' := by
      have h6 := (HP.out.1.qrow h0).sl.run_idx (P := Tryz.prog) IQS.und IQS.size .i64 i hi2
      rw [Nat.mul_one, ← HA.out.2.2] at h6
      exact h6
     have cq : w2.cell? (at_ z.qv i) = some (z.qs i) := HP.out.1.qcell h0 hi2
     have H0 := Lib.hid (And.intro h0 hi2)
     have c1 : w2.cell? ⟨g, 1, none⟩ = some z.m := (HP.out.1.at_cells HG.out).2.1
     have HQ : Hid (QueueAt w2 (z.qs i) s.room (quB (shPush s (stEv ag k pa size m false nt)) (i : Int)) (z.SQ i)) := Lib.hid (HP.out.1.qat h0 i hi2)
     obtain ⟨s2, hs2⟩ : ∃ s2, s2 = shPush s (stEv ag k pa size m false nt) := ⟨_, rfl⟩
     rw [← hs2] at HQ
     obtain ⟨n2, hn2⟩ : ∃ n, n = (quB s2 (i : Int)).length := ⟨_, rfl⟩
     have HS2 := Lib.hid (And.intro hs2 hn2)
     have HE : Hid (shSt s ag k pa size m false nt = shPut (shRoom s2 ag) ag ⟨k, pa, L, s.L.ev.length, !nt⟩) := Lib.hid (by unfold shSt; rw [if_neg (by have h7 := H0.out.1; intro h8; rcases h8 with h8 | h8; cases h8; have h9 : (shPush s (stEv ag k pa size m false nt)).room = s.room := rfl; omega), HL.out.1, hs2])
     clear h0 hi2 hs2 hn2
     go_wp2_with fail
     refine (qlen_any _ _ _ _ _ HQ.out).mono ?_
     rintro e w3 ⟨rfl, rfl⟩
     rw [← HS2.out.2]
     go_wp2_with fail
     refine (qroom_any _ _ _ _ _ HQ.out).mono ?_
     rintro e w3 ⟨rfl, rfl⟩
     go_upto_if 77 with fail
     go_cut [20] (fun s20 wx => s20 = z.qs i ∧ ShQ { z with hv := hv', V := evUpd z.V s.L.ev.length ⟨.slice none 0 0, .slice la L.length lc, .slice none 0 0⟩ } s2 (shRoom s2 ag) w2 wx)
     case first =>
      by_cases hr : s.room ≤ n2
      · have hr' : (s.room : Int) ≤ (n2 : Int) := by omega
        go_wp2_with fail
        refine (qflush_any _ _ _ _ _ _ HQ.out s.M z.U HP.out.1.blks (fun q hq => (HP.out.1.lq H0.out.1 i q H0.out.2 hq).2)).mono ?_
        rintro e w3 ⟨rfl, S1, q1, b1, m1, s1⟩
        have HX := Lib.hid (And.intro q1 (And.intro b1 (And.intro m1 s1)))
        have HRM := Lib.hid hr
        clear q1 b1 m1 s1 hr'
        go_wp2_with fail
        go_meet
        obtain ⟨q1, b1, m1, s1⟩ := HX.out
        have hp := HP.out.1
        have h0 := H0.out.1
        have hi2 := H0.out.2
        obtain ⟨hs2, hn2⟩ := HS2.out
        rw [← hs2] at hp h0 hi2
        refine ⟨rfl, ?_⟩
        have e5 : shRoom s2 ag = shFlush s2 (i : Int) := by unfold shRoom; rw [HA.out.2.2, ← hn2, if_pos (by rw [hs2]; exact HRM.out)]
        rw [e5]
        exact hp.setQ_q hi2 h0 (by rw [hs2] at q1 ⊢; exact q1) (by rw [hs2] at b1 ⊢; exact b1) m1 (fun q hq => .inl (s1 q hq)) (hp.ok.flush hi2)
      · have hr' : ¬ (s.room : Int) ≤ (n2 : Int) := by omega
        have HRM := Lib.hid hr
        go_wp2_with fail
        go_meet
        obtain ⟨hs2, hn2⟩ := HS2.out
        have hp := HP.out.1
        rw [← hs2] at hp
        refine ⟨rfl, ?_⟩
        have e5 : shRoom s2 ag = s2 := by unfold shRoom; rw [HA.out.2.2, ← hn2, if_neg (by rw [hs2]; exact HRM.out)]
        rw [e5]
        exact hp.q_refl (Mod.refl _ _)
     case rest =>
      obtain ⟨rfl, D⟩ := hcut
      obtain ⟨SQ', h3, e1, e2, e3, m3, f3⟩ := D
      have e4 : (shRoom s2 ag).L = (shPush s (stEv ag k pa size m false nt)).L := by rw [e3, HS2.out.1]
      obtain ⟨ho, hu⟩ := q_own (z := z) (hv' := hv') (SQ' := SQ') e4 h3
      have i3 : i < (shRoom s2 ag).n := by rw [e1, HS2.out.1]; exact H0.out.2
      have r3 : 0 < (shRoom s2 ag).room := by rw [e2, HS2.out.1]; exact H0.out.1
      have rr : (shRoom s2 ag).room = s.room := by rw [e2, HS2.out.1]; rfl
      have HD := Lib.hid (And.intro h3 (And.intro (ShQ.fp e1 e2 e3 m3 f3) (And.intro ho (And.intro i3 (And.intro r3 rr)))))
      clear h3 e1 e2 e3 m3 f3 ho hu i3 r3 e4 c2 nn gd ix cq c1 rr
      go_wp2_with fail
      refine (qput_any _ (z.qs i) (shRoom s2 ag).room (quB (shRoom s2 ag) (i : Int)) (SQ' i) (HD.out.1.qat HD.out.2.2.2.2.1 i HD.out.2.2.2.1) ⟨k, pa, L, s.L.ev.length, !nt⟩ _ (by have h5 : Sl _ (.slice la L.length lc) 1 (bytesN size.toNat m).length ((bytesN size.toNat m).map bv) := HD.out.2.2.1.wr.sl; rw [← HL.out.1] at h5; exact h5) ⟨(HA.out.1.rng HS.out.ok).2.1, i64_lg HS.out.ok⟩).mono ?_
      rintro e w4 ⟨rfl, S1, q1, m1, s1⟩
      have HX := Lib.hid (And.intro q1 (And.intro m1 s1))
      clear q1 m1 s1
      go_wp2_with fail
      go_ret
      obtain ⟨q1, m1, s1⟩ := HX.out
      obtain ⟨h3, MF, ho, i3, r3, rr⟩ := HD.out
      have T4 := (h3.setQ_q i3 r3 q1 (h3.blks.mod m1 (fun q hu hq => (h3.lq r3 i q i3 hq).2 hu)) (m1.weak (fun q hq => .inl (.inl hq))) s1 (h3.ok.put i3 ⟨(HA.out.1.rng HS.out.ok).2.1, i64_lg HS.out.ok⟩)).to
      refine ⟨rfl, ?_⟩
      show ShTo z s (shSt s ag k pa size m false nt) w w4
      rw [HE.out]
      have e9 : ∀ (a : Int) X, a = (i : Int) → shPut (shRoom s2 ag) a X = shPut (shRoom s2 ag) (i : Int) X := fun a X h => by rw [h]
      rw [e9 ag _ HA.out.2.2]
      exact ShTo.trans (z' := { z with hv := hv', V := evUpd z.V s.L.ev.length ⟨.slice none 0 0, .slice la L.length lc, .slice none 0 0⟩ }) (s' := s2) rfl HP.out.2.1 (by rw [HS2.out.1]; exact HP.out.2.2) (ShTo.trans (z' := { z with hv := hv', V := evUpd z.V s.L.ev.length ⟨.slice none 0 0, .slice la L.length lc, .slice none 0 0⟩, SQ := SQ' }) rfl MF.1 MF.2 T4)
    all_goals
     have HE : Hid (∀ sq, (sq = true ∨ s.room = 0) → shSt s ag k pa size m sq nt = shWrite (shDrain (shPush s (stEv ag k pa size m sq nt)) ag) k pa L s.L.ev.length) := Lib.hid (fun sq h => by unfold shSt; rw [if_pos h, HL.out.1])
     go_wp2_with fail
     refine (shdrain_qat HP.out.1 HG.out ⟨i, HA.out.2.2, HA.out.2.1⟩).mono ?_
     rintro e w3 ⟨rfl, D⟩
     obtain ⟨SQ', h3, e1, e2, e3, m3, f3⟩ := D
     obtain ⟨ho, hu⟩ := q_own (z := z) (hv' := hv') (SQ' := SQ') e3 h3
     have c1 : w3.cell? ⟨g, 1, none⟩ = some z.m := (h3.at_cells HG.out).2.1
     have HD := Lib.hid (And.intro h3 (And.intro (ShQ.fp e1 e2 e3 m3 f3) (And.intro ho hu)))
     clear h3 e1 e2 e3 m3 f3 ho hu c2 nn gd
     go_wp2_with fail
     refine (write_any _ _ _ _ HD.out.1.blks k pa _ L (by have h5 : Sl w3 (.slice la L.length lc) 1 (bytesN size.toNat m).length ((bytesN size.toNat m).map bv) := HD.out.2.2.1.wr.sl; rw [← HL.out.1] at h5; exact h5) (by have h6 := HL.out.2; omega) _ (i64_lg HS.out.ok)).mono ?_
     rintro e w4 ⟨rfl, b4, m4⟩
     have T4 := Lib.hid (HD.out.1.setM_to b4 m4 (fun k hk => .inl hk) (HD.out.1.ok.write k pa L (i64_lg HS.out.ok)))
     clear b4 m4 c1
     go_wp2_with fail
     go_ret
     refine ⟨rfl, ?_⟩
     first
      | rw [HE.out true (.inl rfl)]
      | rw [HE.out false (.inr (HB.out.1 (by first | rfl | trivial)))]
     exact ShTo.trans (z' := { z with hv := hv', V := evUpd z.V s.L.ev.length ⟨.slice none 0 0, .slice la L.length lc, .slice none 0 0⟩ }) rfl HP.out.2.1 HP.out.2.2 (ShTo.trans (z' := { z with hv := hv', V := evUpd z.V s.L.ev.length ⟨.slice none 0 0, .slice la L.length lc, .slice none 0 0⟩, SQ := SQ' }) rfl HD.out.2.1.1 HD.out.2.1.2 T4.out)
end Go.Proofs.YtbhocahmhmafmaaGreat
namespace Go.Proofs.YtbhocahmhmafmaaGreat
open Go.Ren Go.RowKit
set_option linter.unusedVariables false
set_option maxRecDepth 100000 in
set_option maxHeartbeats 1600000 in
theorem shwhole_any (w0 w : World) (z : ShV) (s : Shm) (h : ShIn w0 z s) (x : Ext w0 w) {g : Nat} (hg : g = z.g) (ag k pa size : Int) (hA : Asked s ag k pa size) (hl : s.L.ev.length < 1000) (m : Nat) (hm : m < 18446744073709551616) (put : Bool)
 (v u : Value) (ob : Own w 5 1 v (breadB s.M k pa size).length ((breadB s.M k pa size).map bv)) (oy : Own w 3 1 u (breadY s.M k pa size).length ((breadY s.M k pa size).map iv))
 (fb : ∀ q, v.ownBlock = some q → w0.heap.size ≤ q) (fy : ∀ q, u.ownBlock = some q → w0.heap.size ≤ q) :
 Calls Tryz.prog 99 #[ptr g, .int .i64 ag, .int .i64 k, .int .i64 pa, .int .i64 size, v, u, .int .u64 (m : Int), .bool put] w fun e w' => e = .returned (.tuple #[]) ∧ ShTo z s (shWhole s ag k pa size m put) w0 w' := by
 obtain ⟨la1, lc1, hv1, -⟩ := ob.sl.shape
 obtain ⟨la2, lc2, hv2, -⟩ := oy.sl.shape
 subst hv1 hv2
 obtain ⟨lb1, hlb1⟩ : ∃ n, n = (breadB s.M k pa size).length := ⟨_, rfl⟩
 obtain ⟨lb2, hlb2⟩ : ∃ n, n = (breadY s.M k pa size).length := ⟨_, rfl⟩
 rw [← hlb1] at ob fb ⊢
 rw [← hlb2] at oy fy ⊢
 obtain ⟨w1, hw1⟩ : ∃ W, W = w.alloc (.cells (evArr (whEv s ag k pa size) ⟨.slice la1 lb1 lc1, .slice none 0 0, .slice la2 lb2 lc2⟩) 70) := ⟨_, rfl⟩
 obtain ⟨g1, hg1⟩ : ∃ g, g = w.heap.size := ⟨_, rfl⟩
 have x1 : Ext w w1 := by rw [hw1]; exact (Mod.refl _ _).alloc _
 have b1 : EvBox w1 g1 (whEv s ag k pa size) ⟨.slice la1 lb1 lc1, .slice none 0 0, .slice la2 lb2 lc2⟩ := by rw [hw1, hg1]; exact EvBox.of w _ _
 have HLB := Lib.hid (And.intro hlb1 hlb2)
 have HS := Lib.hid (And.intro h (And.intro x hg))
 have HO := Lib.hid (And.intro ob (And.intro oy (And.intro fb fy)))
 have HA := Lib.hid (And.intro hA (And.intro hl hm))
 have HW := Lib.hid (And.intro hw1 (And.intro hg1 (And.intro x1 b1)))
 clear h x hg ob oy fb fy hA hl hm hlb1 hlb2 hw1 hg1 x1 b1
 cases put with
 | false =>
  have HOK : Hid (ShOk (shPush s (whEv s ag k pa size))) := Lib.hid (HS.out.1.ok.whole (w := m) (put := false) HA.out.1 HA.out.2.1)
  go_enter Tryz.func99, Tryz.ntmps99
  go_upto_region 1 with fail
  rw [← HW.out.2.1]
  rw [show w.alloc (.cells #[.int .i64 ag, .int .i64 1, .bool true, .bool true, .int .i64 k, .int .i64 pa, .int .i64 size, .slice la1 lb1 lc1, .slice none 0 0, .slice la2 lb2 lc2] 70) = w1 from HW.out.1.symm]
  obtain ⟨c0, c1, c2, c3, c4, c5, c6, c7, c8, c9⟩ := HW.out.2.2.2.cells
  simp only [whEv] at c0 c1 c2 c3 c4 c5 c6
  go_wp2_with fail
  refine (shnote_at (v := ⟨.slice la1 lb1 lc1, .slice none 0 0, .slice la2 lb2 lc2⟩) HS.out.2.2 (HS.out.1.ext (HS.out.2.1.trans HW.out.2.2.1)) (e := whEv s ag k pa size) ⟨by have h5 := HO.out.1.ext HW.out.2.2.1; rw [HLB.out.1] at h5 ⊢; exact h5, Own.nil _ _ _, by have h5 := HO.out.2.1.ext HW.out.2.2.1; rw [HLB.out.2] at h5 ⊢; exact h5⟩ (fun q hq => fp_apart HS.out.1 (by rcases hq with hq | hq | hq; exact HO.out.2.2.1 q hq; cases hq; exact HO.out.2.2.2 q hq)) HOK.out).mono ?_
  rintro e w4 P4
  obtain rfl := P4.1
  have HP4 := Lib.hid P4
  clear P4 c0 c1 c2 c3 c4 c5 c6 c7 c8 c9
  go_wp2_with fail
  refine bodyPost_ret (results_none rfl _ _ _) rfl ?_
  exact ⟨rfl, HS.out.1.note_to (HS.out.2.1.trans HW.out.2.2.1) (fun q hq => by rcases hq with hq | hq | hq; exact HO.out.2.2.1 q hq; cases hq; exact HO.out.2.2.2 q hq) HP4.out⟩
 | true =>
  obtain ⟨L, hL⟩ : ∃ L, L = bytesN size.toNat m := ⟨_, rfl⟩
  have HL : Hid (L = bytesN size.toNat m ∧ L.length = size.toNat ∧ size.toNat ≤ 8) := Lib.hid ⟨hL, by rw [hL]; exact bytesN_len _ _, by have := HA.out.1.sz; omega⟩
  have HKD : Hid (bytesN (szK (kindC size)) m = L) := Lib.hid (by rw [(szK_kindC HA.out.1.sz).1, hL])
  clear hL
  go_enter Tryz.func99, Tryz.ntmps99
  go_upto_region 1 with fail
  rw [← HW.out.2.1]
  rw [show w.alloc (.cells #[.int .i64 ag, .int .i64 1, .bool true, .bool true, .int .i64 k, .int .i64 pa, .int .i64 size, .slice la1 lb1 lc1, .slice none 0 0, .slice la2 lb2 lc2] 70) = w1 from HW.out.1.symm]
  go_wp2_with fail
  refine (shkind_any _ size).mono ?_
  rintro e w5 ⟨rfl, rfl⟩
  go_wp2_with fail
  refine (ebytes_any _ (kindC size) m HA.out.2.2).mono ?_
  rintro e w2 ⟨vb, rfl, ob, x2, fb⟩
  rw [HKD.out, List.length_map] at ob
  obtain ⟨la3, lc3, hvb, -⟩ := ob.sl.shape
  subst hvb
  have b2 := x2.blk HW.out.2.2.2.b
  have d1 : w2.cell? ⟨g1, 1, none⟩ = some (.int .i64 1) := by simp [World.cell?, b2]; rfl
  have d8 : w2.cell? ⟨g1, 8, none⟩ = some (.slice none 0 0) := by simp [World.cell?, b2]
  have n1 : w2.frozen? ⟨g1, 1, none⟩ = false := by simp [World.frozen?, b2]
  have n8 : w2.frozen? ⟨g1, 8, none⟩ = false := by simp [World.frozen?, b2]
  have H2 := Lib.hid (And.intro ob (And.intro x2 (And.intro fb b2)))
  clear ob x2 fb b2
  go_upto_region 4 with fail
  obtain ⟨w3, hw3⟩ : ∃ W, W = (w2.setCell ⟨g1, 1, none⟩ (.int .i64 3)).setCell ⟨g1, 8, none⟩ (.slice la3 L.length lc3) := ⟨_, rfl⟩
  rw [← hw3]
  have M3 : Mod (fun q => q = g1) w2 w3 := by rw [hw3]; exact ((Mod.refl (fun q => q = g1) w2).setCell (.inl rfl) _).setCell (.inl rfl) _
  have B3 : EvBox w3 g1 (chEv s ag k pa size m) ⟨.slice la1 lb1 lc1, .slice la3 L.length lc3, .slice la2 lb2 lc2⟩ := ⟨by rw [hw3]; simp [World.setCell, Array.getElem?_modify, H2.out.2.2.2]; exact ⟨rfl, rfl, rfl, rfl, rfl, rfl, rfl⟩⟩
  have hgf : ¬ z.Fp s g1 := fp_apart HS.out.1 (by rw [HW.out.2.1]; exact HS.out.2.1.size)
  have x03 : Ext w0 w3 := (HS.out.2.1.trans (HW.out.2.2.1.trans H2.out.2.1)).trans' M3 (fun q hq => .inr (by have h6 := HS.out.2.1.size; have h7 := HW.out.2.1; omega))
  have own3 : EvOwn w3 (chEv s ag k pa size m) ⟨.slice la1 lb1 lc1, .slice la3 L.length lc3, .slice la2 lb2 lc2⟩ := by
   have hx := HW.out.2.2.1.trans H2.out.2.1
   have o1 := HO.out.1.ext hx
   have o2 := HO.out.2.1.ext hx
   have o3 := H2.out.1
   have p1 : ∀ q, (Value.slice la1 lb1 lc1).ownBlock = some q → ¬ q = g1 := fun q hq e => by subst e; exact o1.apart_obj H2.out.2.2.2 (by decide) hq
   have p2 : ∀ q, (Value.slice la2 lb2 lc2).ownBlock = some q → ¬ q = g1 := fun q hq e => by subst e; exact o2.apart_obj H2.out.2.2.2 (by decide) hq
   have p3 : ∀ q, (Value.slice la3 L.length lc3).ownBlock = some q → ¬ q = g1 := fun q hq e => by subst e; exact o3.apart_obj H2.out.2.2.2 (by decide) hq
   refine ⟨?_, ?_, ?_⟩
   · have h5 := o1.mod M3 p1; rw [HLB.out.1] at h5 ⊢; exact h5
   · have h5 := o3.mod M3 p3; show Own w3 _ 1 (.slice la3 L.length lc3) (bytesN size.toNat m).length ((bytesN size.toNat m).map bv); rw [← HL.out.1]; exact h5
   · have h5 := o2.mod M3 p2; rw [HLB.out.2] at h5 ⊢; exact h5
  have fr3 : ∀ q, EvFp ⟨.slice la1 lb1 lc1, .slice la3 L.length lc3, .slice la2 lb2 lc2⟩ q → w0.heap.size ≤ q := fun q hq => by
   rcases hq with hq | hq | hq
   · exact HO.out.2.2.1 q hq
   · have h5 := H2.out.2.2.1 q hq; have h6 := HS.out.2.1.size; have h7 := HW.out.2.2.1.size; omega
   · exact HO.out.2.2.2 q hq
  have HK : Hid (ShOk (shPush s (chEv s ag k pa size m))) := Lib.hid (by
   have h8 := bread_len20 HS.out.1.ok.bk (k := k) (a := pa) (n := size)
   obtain ⟨r1, r2, r3, r4, r5, r6, r7⟩ := HA.out.1.rng HS.out.1.ok
   have h9 := HL.out
   exact HS.out.1.ok.push HA.out.2.1 ⟨r1, i64_one rfl, r2, r3, r4, breadY_i HS.out.1.ok.bk⟩ ⟨by show (breadB _ _ _ _).length ≤ 8; omega, by simp only [chEv, bytesN_len]; omega, by show (breadY _ _ _ _).length ≤ 8; omega⟩)
  have H3 := Lib.hid (And.intro x03 (And.intro own3 (And.intro (fun q hq => fp_apart HS.out.1 (fr3 q hq)) (And.intro fr3 (And.intro B3 hgf)))))
  have KF : Hid (∀ w', Mod (fun q => q = z.g ∨ z.hv.ownBlock = some q) w3 w' → w'.cell? ⟨g, 1, none⟩ = some z.m → w'.cell? ⟨g, 1, none⟩ = some z.m ∧ w'.cell? ⟨g1, 0, none⟩ = some (.int .i64 ag) ∧ w'.cell? ⟨g1, 1, none⟩ = some (.int .i64 3) ∧ w'.cell? ⟨g1, 2, none⟩ = some (.bool true) ∧ w'.cell? ⟨g1, 3, none⟩ = some (.bool true) ∧ w'.cell? ⟨g1, 4, none⟩ = some (.int .i64 k) ∧ w'.cell? ⟨g1, 5, none⟩ = some (.int .i64 pa) ∧ w'.cell? ⟨g1, 6, none⟩ = some (.int .i64 size) ∧ w'.cell? ⟨g1, 7, none⟩ = some (.slice la1 lb1 lc1) ∧ w'.cell? ⟨g1, 8, none⟩ = some (.slice la3 L.length lc3) ∧ w'.cell? ⟨g1, 9, none⟩ = some (.slice la2 lb2 lc2)) := Lib.hid fun w' M hm1 => by
   have b5 := M.blk H3.out.2.2.2.2.1.b (fun h => H3.out.2.2.2.2.2 (.inl (h.elim .inl (fun h1 => .inr (.inr (.inl h1))))))
   obtain ⟨c0, c1, c2, c3, c4, c5, c6, c7, c8, c9⟩ := EvBox.cells (w := w') (g := g1) ⟨b5⟩
   exact ⟨hm1, c0, c1, c2, c3, c4, c5, c6, c7, c8, c9⟩
  have KG : Hid (∀ w' w'', Mod (fun q => q = z.g ∨ z.hv.ownBlock = some q) w3 w' → Mod z.U w' w'' → w''.cell? ⟨g, 1, none⟩ = some z.m → (fun w' => w'.cell? ⟨g, 1, none⟩ = some z.m ∧ w'.cell? ⟨g1, 0, none⟩ = some (.int .i64 ag) ∧ w'.cell? ⟨g1, 1, none⟩ = some (.int .i64 3) ∧ w'.cell? ⟨g1, 2, none⟩ = some (.bool true) ∧ w'.cell? ⟨g1, 3, none⟩ = some (.bool true) ∧ w'.cell? ⟨g1, 4, none⟩ = some (.int .i64 k) ∧ w'.cell? ⟨g1, 5, none⟩ = some (.int .i64 pa) ∧ w'.cell? ⟨g1, 6, none⟩ = some (.int .i64 size) ∧ w'.cell? ⟨g1, 7, none⟩ = some (.slice la1 lb1 lc1) ∧ w'.cell? ⟨g1, 8, none⟩ = some (.slice la3 L.length lc3) ∧ w'.cell? ⟨g1, 9, none⟩ = some (.slice la2 lb2 lc2)) w'') := Lib.hid fun w' w'' M M2 hm1 => by
   have b5 := M2.blk (M.blk H3.out.2.2.2.2.1.b (fun h => H3.out.2.2.2.2.2 (.inl (h.elim .inl (fun h1 => .inr (.inr (.inl h1))))))) (fun h => H3.out.2.2.2.2.2 (.inr (.inl h)))
   obtain ⟨c0, c1, c2, c3, c4, c5, c6, c7, c8, c9⟩ := EvBox.cells (w := w'') (g := g1) ⟨b5⟩
   exact ⟨hm1, c0, c1, c2, c3, c4, c5, c6, c7, c8, c9⟩
  clear d1 d8 n1 n8 hw3 M3 B3 hgf x03 own3 fr3
  refine wp_region_plan [(0, true), (1, true), (2, true), (3, true), (4, true), (5, true), (6, true), (7, true), (8, true), (9, true), (10, false), (11, false)] (fun w' => w'.cell? ⟨g, 1, none⟩ = some z.m ∧ w'.cell? ⟨g1, 0, none⟩ = some (.int .i64 ag) ∧ w'.cell? ⟨g1, 1, none⟩ = some (.int .i64 3) ∧ w'.cell? ⟨g1, 2, none⟩ = some (.bool true) ∧ w'.cell? ⟨g1, 3, none⟩ = some (.bool true) ∧ w'.cell? ⟨g1, 4, none⟩ = some (.int .i64 k) ∧ w'.cell? ⟨g1, 5, none⟩ = some (.int .i64 pa) ∧ w'.cell? ⟨g1, 6, none⟩ = some (.int .i64 size) ∧ w'.cell? ⟨g1, 7, none⟩ = some (.slice la1 lb1 lc1) ∧ w'.cell? ⟨g1, 8, none⟩ = some (.slice la3 L.length lc3) ∧ w'.cell? ⟨g1, 9, none⟩ = some (.slice la2 lb2 lc2)) (by kernel_rfl) (by kernel_rfl) (by kernel_rfl) (fun _ d _ _ _ h => by cases d <;> exact h) (KF.out _ (Mod.drew (Mod.refl _ _)) ((HS.out.1.ext (Mod.drew H3.out.1)).at_cells HS.out.2.2).2.1) ?_
  simp only [planL, getO]
  iterate 10 (refine plan_take (v := ?_) (by rfl) (fun wS hS => ?_) ?_; rotate_left; (focus ((try dsimp only at hS); go_simp; (try with_reducible rfl); done)); (try simp only [Act.put, List.setIfInBounds_toArray, List.set_cons_zero, List.set_cons_succ]))
  refine plan_call (fun K hK => ?_)
  go_simp
  go_at_call 40; refine (shnote_at (v := ⟨.slice la1 lb1 lc1, .slice la3 L.length lc3, .slice la2 lb2 lc2⟩) HS.out.2.2 (HS.out.1.ext (Mod.drew H3.out.1)) (e := chEv s ag k pa size m) (H3.out.2.1.ext (Mod.drew (Mod.refl _ _))) H3.out.2.2.1 HK.out).mono ?_; rintro en w4 P4; obtain rfl := P4.1; obtain ⟨hv', h4, m4, f4⟩ := P4.2; have e4 := note_own P4; have H4 := Lib.hid (And.intro h4 (And.intro (Mod.trans (Mod.drew (Mod.refl _ _)) m4) (And.intro f4 e4)))
  refine hK.out _ _ (KF.out _ H4.out.2.1 (H4.out.1.at_cells HS.out.2.2).2.1) ?_
  clear hK K
  (try simp only [Act.put, List.setIfInBounds_toArray, List.set_cons_zero, List.set_cons_succ])
  refine plan_call (fun K hK => ?_)
  go_simp
  go_at_call 42; refine (write_any _ _ _ _ H4.out.1.blks k pa _ L (by have h5 : Sl w4 (.slice la3 L.length lc3) 1 (bytesN size.toNat m).length ((bytesN size.toNat m).map bv) := H4.out.2.2.2.wr.sl; rw [← HL.out.1] at h5; exact h5) (by have h6 := HL.out.2; omega) _ (i64_lg HS.out.1.ok)).mono ?_; rintro en w5 ⟨rfl, b5, m5⟩; have H5 := Lib.hid (And.intro b5 m5)
  refine hK.out _ _ (KG.out _ _ H4.out.2.1 H5.out.2 ((H4.out.1.setM H5.out.1 H5.out.2 (fun q hq => .inl hq) (H4.out.1.ok.write k pa L (i64_lg HS.out.1.ok))).at_cells HS.out.2.2).2.1) ?_
  clear hK K
  (try simp only [Act.put, List.setIfInBounds_toArray, List.set_cons_zero, List.set_cons_succ])
  refine plan_nil ?_
  refine bodyPost_end (results_none rfl _ _ _) rfl ?_
  refine ⟨rfl, ?_⟩
  obtain ⟨M2, F2⟩ := HS.out.1.note_fp (e := chEv s ag k pa size m) (v := ⟨.slice la1 lb1 lc1, .slice la3 L.length lc3, .slice la2 lb2 lc2⟩) H3.out.1 H3.out.2.2.2.1 H4.out.2.1 H4.out.2.2.1
  show ShTo z s (shWrite (shPush s (chEv s ag k pa size m)) k pa (bytesN size.toNat m) s.L.ev.length) w0 w5
  rw [← HL.out.1]
  exact ShTo.trans (z' := { z with hv := hv', V := evUpd z.V s.L.ev.length ⟨.slice la1 lb1 lc1, .slice la3 L.length lc3, .slice la2 lb2 lc2⟩ }) rfl M2 F2 (H4.out.1.setM_to H5.out.1 H5.out.2 (fun q hq => .inl hq) (H4.out.1.ok.write k pa L (i64_lg HS.out.1.ok)))
end Go.Proofs.YtbhocahmhmafmaaGreat
namespace Go.Ren
set_option linter.unusedVariables false
theorem changeK_ok {k : Int} (hk : szK k ≠ 0) (o : Int) (a b : Nat) : (changeK k o a b).2 = decide (1 ≤ o ∧ o ≤ 6) := by
 unfold changeK
 rw [if_neg hk]
 split
 · rename_i h; subst h; rfl
 split
 · rename_i h; subst h; rfl
 split
 · rename_i h; subst h; rfl
 split
 · rename_i h; subst h; rfl
 split
 · rename_i h; subst h; rfl
 split
 · rename_i h; subst h; rfl
 · symm; rw [decide_eq_false_iff_not]; omega
theorem cutK_lt (k : Int) (m : Nat) : cutK k m < 18446744073709551616 := by
 unfold cutK
 have h := szK_five k
 have h2 : 0 < 2 ^ (8 * szK k) := Nat.two_pow_pos _
 have h1 := Nat.mod_lt m h2
 rcases h with h | h | h | h | h <;> rw [h] at h1 ⊢ <;> simp at h1 ⊢ <;> omega
theorem changeK_lt (k o : Int) (a b : Nat) : (changeK k o a b).1 < 18446744073709551616 := by
 unfold changeK
 split
 · decide
 split
 · exact cutK_lt _ _
 split
 · exact cutK_lt _ _
 split
 · exact cutK_lt _ _
 split
 · exact cutK_lt _ _
 split
 · exact cutK_lt _ _
 split
 · exact cutK_lt _ _
 · decide
theorem wordN_64 {l : List UInt8} (h : l.length ≤ 8) : wordN l < 18446744073709551616 := by
 have h1 := wordN_lt l
 have h2 : (2 : Nat) ^ (8 * l.length) ≤ 2 ^ 64 := Nat.pow_le_pow_right (by decide) (by omega)
 have h3 : (2 : Nat) ^ 64 = 18446744073709551616 := by decide
 omega
end Go.Ren
namespace Go.Proofs.YtbhocahmhmafmaaGreat
open Go.Ren Go.RowKit
set_option linter.unusedVariables false
theorem drained_ok {s : Shm} (hk : ShOk s) {ag k pa size : Int} (hA : Asked s ag k pa size) : ShOk (shDrain s ag) ∧ Asked (shDrain s ag) ag k pa size ∧ (breadB (shDrain s ag).M k pa size).length = size.toNat ∧ size.toNat ≤ 8 := by
 have h2 := hk.seq_ (seq := true) hA
 have h3 := (bread_len20 h2.1.bk (k := k) (a := pa) (n := size)).2.2 h2.2.chk
 exact ⟨h2.1, h2.2, h3, by have := hA.sz; omega⟩
set_option maxRecDepth 100000 in
set_option maxHeartbeats 1600000 in
theorem shchange_any (w : World) (z : ShV) (s : Shm) (h : ShIn w z s) (ag k pa size op : Int) (m : Nat) (hm : m < 18446744073709551616) :
 Calls Tryz.prog 47 #[ptr z.g, .int .i64 ag, .int .i64 k, .int .i64 pa, .int .i64 size, .int .i64 op, .int .u64 (m : Int)] w (ActPost z s (shChange s ag k pa size op m) w) := by
 have HS := Lib.hid h
 have HM := Lib.hid hm
 obtain ⟨C, hC⟩ : ∃ C, C = shC s ag k pa size := ⟨_, rfl⟩
 obtain ⟨g, hg⟩ : ∃ g, g = z.g := ⟨_, rfl⟩
 rw [← hg]
 have HG := Lib.hid hg
 clear hg hm
 by_cases hc : C = 0
 case neg =>
  have HR : Hid (shChange s ag k pa size op m = ((0, C), s)) := Lib.hid (by
   have e : shE s ag k pa size op = C := by unfold shE; rw [← hC, if_pos hc]
   unfold shChange; rw [e, if_pos hc])
  have hb : (C != 0) = true := by simpa using hc
  have HC := Lib.hid hC
  rw [HR.out]
  clear hc hC h
  go_enter Tryz.func47, Tryz.ntmps47
  go_wp2_with fail
  refine (shcheck_at HG.out HS.out ag k pa size).mono ?_
  rintro e w' ⟨rfl, rfl⟩
  rw [← HC.out]
  go_wp2_with fail
  go_ret2
  exact ⟨rfl, HS.out.to (Mod.refl _ _)⟩
 case pos =>
  have hC0 : shC s ag k pa size = 0 := by rw [← hC]; exact hc
  clear hC hc C
  have hA := shC_0 hC0
  have HKO : Hid (∀ a b, (changeK (kindC size) op a b).2 = decide (1 ≤ op ∧ op ≤ 6)) := Lib.hid fun a b => changeK_ok (szK_kindC hA.sz).2 op a b
  by_cases ho : 1 ≤ op ∧ op ≤ 6
  case neg =>
   have HR : Hid (shChange s ag k pa size op m = ((0, 8), s)) := Lib.hid (by
    have e : shE s ag k pa size op = 8 := by unfold shE; rw [hC0, if_neg (by simp), if_pos (by omega)]
    unfold shChange; rw [e, if_pos (by omega)])
   have HC := Lib.hid (And.intro hC0 ho)
   rw [HR.out]
   clear hC0 ho h hA
   go_enter Tryz.func47, Tryz.ntmps47
   go_wp2_with fail
   refine (shcheck_at HG.out HS.out ag k pa size).mono ?_
   rintro e w' ⟨rfl, rfl⟩
   rw [HC.out.1]
   go_wp2_with fail
   refine (shkind_any _ size).mono ?_
   rintro e w5 ⟨rfl, rfl⟩
   go_wp2_with fail
   refine (change_any _ (kindC size) op 0 0 (by decide) (by decide)).mono ?_
   rintro e w5 ⟨rfl, rfl⟩
   rw [HKO.out, decide_eq_false HC.out.2]
   go_wp2_with fail
   go_ret2
   exact ⟨rfl, HS.out.to (Mod.refl _ _)⟩
  case pos =>
   by_cases hf : 1000 ≤ s.L.ev.length
   · have HR : Hid (shChange s ag k pa size op m = ((0, 11), s)) := Lib.hid (by
      have e : shE s ag k pa size op = 11 := by unfold shE; rw [hC0, if_neg (by simp), if_neg (by omega), if_pos hf]
      unfold shChange; rw [e, if_pos (by omega)])
     have HC := Lib.hid (And.intro hC0 (And.intro ho hf))
     rw [HR.out]
     clear hC0 ho hf h hA
     go_enter Tryz.func47, Tryz.ntmps47
     go_wp2_with fail
     refine (shcheck_at HG.out HS.out ag k pa size).mono ?_
     rintro e w' ⟨rfl, rfl⟩
     rw [HC.out.1]
     go_wp2_with fail
     refine (shkind_any _ size).mono ?_
     rintro e w5 ⟨rfl, rfl⟩
     go_wp2_with fail
     refine (change_any _ (kindC size) op 0 0 (by decide) (by decide)).mono ?_
     rintro e w5 ⟨rfl, rfl⟩
     rw [HKO.out, decide_eq_true HC.out.2.1]
     go_wp2_with fail
     refine (shfull_at HG.out HS.out).mono ?_
     rintro e w' ⟨rfl, rfl⟩
     rw [decide_eq_true HC.out.2.2]
     go_wp2_with fail
     go_ret2
     exact ⟨rfl, HS.out.to (Mod.refl _ _)⟩
   · obtain ⟨X, hX⟩ : ∃ X, X = shOld s ag k pa size := ⟨_, rfl⟩
     have HR : Hid (shChange s ag k pa size op m = ((X, 0), shWhole (shDrain s ag) ag k pa size (changeK (kindC size) op X m).1 true)) := Lib.hid (by
      have e : shE s ag k pa size op = 0 := by unfold shE; rw [hC0, if_neg (by simp), if_neg (by omega), if_neg hf]
      unfold shChange; rw [e, if_neg (by simp), hX])
     have HC := Lib.hid (And.intro hC0 (And.intro ho hf))
     have HA := Lib.hid (And.intro hA (drained_ok h.ok hA))
     have HW : Hid (wordK (kindC size) (breadB (shDrain s ag).M k pa size) = (X, true)) := Lib.hid (by rw [hX]; exact wordK_eq hA.sz (drained_ok h.ok hA).2.2.1)
     have HX : Hid (X < 18446744073709551616) := Lib.hid (by rw [hX]; exact wordN_64 (by have h3 := drained_ok h.ok hA; omega))
     rw [HR.out]
     clear hC0 ho hf h hA hX
     go_enter Tryz.func47, Tryz.ntmps47
     go_wp2_with fail
     refine (shcheck_at HG.out HS.out ag k pa size).mono ?_
     rintro e w' ⟨rfl, rfl⟩
     rw [HC.out.1]
     go_wp2_with fail
     refine (shkind_any _ size).mono ?_
     rintro e w5 ⟨rfl, rfl⟩
     go_wp2_with fail
     refine (change_any _ (kindC size) op 0 0 (by decide) (by decide)).mono ?_
     rintro e w5 ⟨rfl, rfl⟩
     rw [HKO.out, decide_eq_true HC.out.2.1]
     go_wp2_with fail
     refine (shfull_at HG.out HS.out).mono ?_
     rintro e w' ⟨rfl, rfl⟩
     rw [decide_eq_false HC.out.2.2]
     go_wp2_with fail
     refine (shdrain_at HG.out HS.out HA.out.1.ag).mono ?_
     rintro e w1 ⟨rfl, P1⟩
     obtain ⟨z1, e1, h1, m1, f1⟩ := P1.at_ HG.out
     have c1 := (h1.at_cells e1).2.1
     have H1 := Lib.hid (And.intro e1 (And.intro h1 (And.intro m1 f1)))
     clear P1 e1 h1 m1 f1
     go_wp2_with fail
     refine (read_any _ _ _ _ H1.out.2.1.blks k pa size).mono ?_
     rintro e w2 ⟨v, u, rfl, ov, ou, x2, fv, fu⟩
     have HV := Lib.hid (And.intro ov (And.intro ou (And.intro x2 (And.intro fv fu))))
     clear ov ou x2 fv fu c1
     go_wp2_with fail
     refine (shkind_any _ size).mono ?_
     rintro e w5 ⟨rfl, rfl⟩
     go_wp2_with fail
     refine (eword_any _ (kindC size) v _ HV.out.1.sl).mono ?_
     rintro e w5 ⟨rfl, rfl⟩
     rw [HW.out]
     go_wp2_with fail
     refine (shkind_any _ size).mono ?_
     rintro e w5 ⟨rfl, rfl⟩
     go_wp2_with fail
     refine (change_any _ (kindC size) op X m HX.out HM.out).mono ?_
     rintro e w5 ⟨rfl, rfl⟩
     go_wp2_with fail
     refine (shwhole_any _ _ z1 _ H1.out.2.1 HV.out.2.2.1 H1.out.1 ag k pa size HA.out.2.2.1 (by have h9 := HC.out.2.2; show s.L.ev.length < 1000; omega) (changeK (kindC size) op X m).1 (changeK_lt _ _ _ _) true v u HV.out.1 HV.out.2.1 HV.out.2.2.2.1 HV.out.2.2.2.2).mono ?_
     rintro e w6 ⟨rfl, P6⟩
     have HP := Lib.hid P6
     clear P6
     go_wp2_with fail
     go_ret2
     exact ⟨rfl, ShTo.then HG.out H1.out.1 H1.out.2.2.1 H1.out.2.2.2 HP.out⟩
end Go.Proofs.YtbhocahmhmafmaaGreat
namespace Go.Proofs.YtbhocahmhmafmaaGreat
open Go.Ren Go.RowKit
set_option linter.unusedVariables false
set_option maxRecDepth 100000 in
set_option maxHeartbeats 1600000 in
theorem shswap_any (w : World) (z : ShV) (s : Shm) (h : ShIn w z s) (ag k pa size : Int) (want m : Nat) (hw : want < 18446744073709551616) (hm : m < 18446744073709551616) :
 Calls Tryz.prog 48 #[ptr z.g, .int .i64 ag, .int .i64 k, .int .i64 pa, .int .i64 size, .int .u64 (want : Int), .int .u64 (m : Int)] w (ActPost z s (shSwap s ag k pa size want m) w) := by
 have HS := Lib.hid h
 have HM := Lib.hid (And.intro hw hm)
 obtain ⟨C, hC⟩ : ∃ C, C = shC s ag k pa size := ⟨_, rfl⟩
 obtain ⟨g, hg⟩ : ∃ g, g = z.g := ⟨_, rfl⟩
 rw [← hg]
 have HG := Lib.hid hg
 clear hg hm hw
 by_cases hc : C = 0
 case neg =>
  have HR : Hid (shSwap s ag k pa size want m = ((0, C), s)) := Lib.hid (by
   have e : shE s ag k pa size 1 = C := by unfold shE; rw [← hC, if_pos hc]
   unfold shSwap; rw [e, if_pos hc])
  have hb : (C != 0) = true := by simpa using hc
  have HC := Lib.hid hC
  rw [HR.out]
  clear hc hC h
  go_enter Tryz.func48, Tryz.ntmps48
  go_wp2_with fail
  refine (shcheck_at HG.out HS.out ag k pa size).mono ?_
  rintro e w' ⟨rfl, rfl⟩
  rw [← HC.out]
  go_wp2_with fail
  go_ret2
  exact ⟨rfl, HS.out.to (Mod.refl _ _)⟩
 case pos =>
  have hC0 : shC s ag k pa size = 0 := by rw [← hC]; exact hc
  clear hC hc C
  have hA := shC_0 hC0
  have ho : True := trivial
  by_cases hf : 1000 ≤ s.L.ev.length
  · have HR : Hid (shSwap s ag k pa size want m = ((0, 11), s)) := Lib.hid (by
     have e : shE s ag k pa size 1 = 11 := by unfold shE; rw [hC0, if_neg (by simp), if_neg (by omega), if_pos hf]
     unfold shSwap; rw [e, if_pos (by omega)])
    have HC := Lib.hid (And.intro hC0 (And.intro ho hf))
    rw [HR.out]
    clear hC0 ho hf h hA
    go_enter Tryz.func48, Tryz.ntmps48
    go_wp2_with fail
    refine (shcheck_at HG.out HS.out ag k pa size).mono ?_
    rintro e w' ⟨rfl, rfl⟩
    rw [HC.out.1]
    go_wp2_with fail
    refine (shfull_at HG.out HS.out).mono ?_
    rintro e w' ⟨rfl, rfl⟩
    rw [decide_eq_true HC.out.2.2]
    go_wp2_with fail
    go_ret2
    exact ⟨rfl, HS.out.to (Mod.refl _ _)⟩
  · obtain ⟨X, hX⟩ : ∃ X, X = shOld s ag k pa size := ⟨_, rfl⟩
    have HR : Hid (shSwap s ag k pa size want m = ((X, 0), shWhole (shDrain s ag) ag k pa size m (breadB (shDrain s ag).M k pa size == bytesN size.toNat want))) := Lib.hid (by
     have e : shE s ag k pa size 1 = 0 := by unfold shE; rw [hC0, if_neg (by simp), if_neg (by omega), if_neg hf]
     unfold shSwap; rw [e, if_neg (by simp), hX])
    have HC := Lib.hid (And.intro hC0 (And.intro ho hf))
    have HA := Lib.hid (And.intro hA (drained_ok h.ok hA))
    have HW : Hid (wordK (kindC size) (breadB (shDrain s ag).M k pa size) = (X, true)) := Lib.hid (by rw [hX]; exact wordK_eq hA.sz (drained_ok h.ok hA).2.2.1)
    have HKB : Hid (bytesN (szK (kindC size)) want = bytesN size.toNat want) := Lib.hid (by rw [(szK_kindC hA.sz).1])
    have HX : Hid (X < 18446744073709551616) := Lib.hid (by rw [hX]; exact wordN_64 (by have h3 := drained_ok h.ok hA; omega))
    rw [HR.out]
    clear hC0 ho hf h hA hX
    go_enter Tryz.func48, Tryz.ntmps48
    go_wp2_with fail
    refine (shcheck_at HG.out HS.out ag k pa size).mono ?_
    rintro e w' ⟨rfl, rfl⟩
    rw [HC.out.1]
    go_wp2_with fail
    refine (shfull_at HG.out HS.out).mono ?_
    rintro e w' ⟨rfl, rfl⟩
    rw [decide_eq_false HC.out.2.2]
    go_wp2_with fail
    refine (shdrain_at HG.out HS.out HA.out.1.ag).mono ?_
    rintro e w1 ⟨rfl, P1⟩
    obtain ⟨z1, e1, h1, m1, f1⟩ := P1.at_ HG.out
    have c1 := (h1.at_cells e1).2.1
    have H1 := Lib.hid (And.intro e1 (And.intro h1 (And.intro m1 f1)))
    clear P1 e1 h1 m1 f1
    go_wp2_with fail
    refine (read_any _ _ _ _ H1.out.2.1.blks k pa size).mono ?_
    rintro e w2 ⟨v, u, rfl, ov, ou, x2, fv, fu⟩
    have HV := Lib.hid (And.intro ov (And.intro ou (And.intro x2 (And.intro fv fu))))
    clear ov ou x2 fv fu c1
    go_wp2_with fail
    refine (shkind_any _ size).mono ?_
    rintro e w5 ⟨rfl, rfl⟩
    go_wp2_with fail
    refine (eword_any _ (kindC size) v _ HV.out.1.sl).mono ?_
    rintro e w5 ⟨rfl, rfl⟩
    rw [HW.out]
    go_wp2_with fail
    go_upto_region 9 with fail
    go_wp2_with fail
    refine (shkind_any _ size).mono ?_
    rintro e w5 ⟨rfl, rfl⟩
    go_wp2_with fail
    refine (ebytes_any _ (kindC size) want HM.out.1).mono ?_
    rintro e w3 ⟨vb, rfl, ob, x3, fb⟩
    rw [HKB.out, List.length_map] at ob
    have HB3 := Lib.hid (And.intro ob x3)
    clear ob x3 fb
    go_wp2_with fail
    refine (bsequal_any _ v vb _ _ ((BytesAt.ext HV.out.1.sl HB3.out.2)) HB3.out.1.sl).mono ?_
    rintro e w4 ⟨rfl, x4⟩
    have H4 := Lib.hid (HB3.out.2.trans x4)
    clear x4
    go_wp2_with fail
    refine (shwhole_any _ _ z1 _ H1.out.2.1 (HV.out.2.2.1.trans H4.out) H1.out.1 ag k pa size HA.out.2.2.1 (by have h9 := HC.out.2.2; show s.L.ev.length < 1000; omega) m HM.out.2 _ v u (HV.out.1.ext H4.out) (HV.out.2.1.ext H4.out) HV.out.2.2.2.1 HV.out.2.2.2.2).mono ?_
    rintro e w6 ⟨rfl, P6⟩
    have HP := Lib.hid P6
    clear P6
    go_wp2_with fail
    go_ret2
    exact ⟨rfl, ShTo.then HG.out H1.out.1 H1.out.2.2.1 H1.out.2.2.2 HP.out⟩
end Go.Proofs.YtbhocahmhmafmaaGreat
