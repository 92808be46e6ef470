/-
  ModelFlat: the walk of renlaw16.ModelFlat. No condition.
-/
import Derived.Test.YthmkcgiiakinmaaModFst
import Derived.Test.YthmkcgiiakinmaaModFlatLaw
namespace Go.Proofs.Ythmkcgiiakinmaa
open Go.Ren Go.RowKit
set_option linter.unusedVariables false
/-- A log that is built in a box of the caller's own. -/
structure GrowAt (w0 : World) (g : Nat) (E : List Ev) (hv : Value) (V : Nat → Vs) (wr : World) : Prop where
  box : wr.heap[g]? = some (.cells #[hv, .slice none 0 0] 25 (0, 0))
  row : Own wr 45 10 hv E.length (flat 10 E.length (fun i j => evcell (evn E i) (V i) j))
  ev : ∀ i, i < E.length → EvOwn wr (evn E i) (V i)
  fr : ∀ q, hv.ownBlock = some q → w0.heap.size ≤ q
  md : Mod (fun q => q = g) w0 wr
theorem GrowAt.push {w0 wr w8 w9 : World} {g : Nat} {E : List Ev} {hv hv9 : Value} {V : Nat → Vs} {e : Ev} {v : Vs} (h : GrowAt w0 g E hv V wr) (x8 : Ext wr w8) (he : EvOwn w8 e v) (M9 : Mod (fun q => hv.ownBlock = some q) w8 w9)
    (ol : Own w9 45 10 hv9 (E.length + 1) (flat 10 E.length (fun i j => evcell (evn E i) (V i) j) ++ (evArr e v).toList)) (fr9 : ∀ q, hv9.ownBlock = some q → hv.ownBlock = some q ∨ w8.heap.size ≤ q) :
    GrowAt w0 g (E ++ [e]) hv9 (evUpd V E.length v) (w9.setCell ⟨g, 0, none⟩ hv9) := by
  have z8 := x8.blk h.box
  have ho8 := h.row.ext x8
  have z9 := M9.blk z8 (fun k => ho8.apart_obj z8 (by decide) k)
  have Ms : Mod (fun q => q = g) w9 (w9.setCell ⟨g, 0, none⟩ hv9) := Mod.setCell (F := fun q => q = g) (Mod.refl _ _) (.inl rfl) _
  have kp : ∀ {e : Ev} {v : Vs}, EvOwn w8 e v → EvOwn (w9.setCell ⟨g, 0, none⟩ hv9) e v := fun {e v} h => by
    have h2 : EvOwn w9 e v := h.mod M9 (fun q hq hl => by
      rcases hq with h3 | h3 | h3
      · exact h.rd.apart ho8 (by decide) h3 hl
      · exact h.wr.apart ho8 (by decide) h3 hl
      · exact h.fr.apart ho8 (by decide) h3 hl)
    exact h2.mod Ms (fun q hq hl => by subst hl; exact h2.apart z9 (by decide) (by decide) hq)
  refine ⟨by simp [World.setCell, Array.getElem?_modify, z9], ?_, fun i hi => ?_, fun q hq => ?_, ((h.md.ext x8).trans' M9 (fun q hq => .inr (h.fr q hq))).trans' Ms (fun q hq => .inl hq)⟩
  · rw [List.length_append, List.length_singleton]
    have e1 := evrow_snoc (fun i => evn (E ++ [e]) i) V E.length v
    have e2 : flat 10 E.length (fun i j => evcell (evn (E ++ [e]) i) (V i) j) = flat 10 E.length (fun i j => evcell (evn E i) (V i) j) := flat_congr fun i j hi _ => by rw [evn_app_lt hi]
    rw [evn_app_eq, e2] at e1
    rw [e1]
    exact ol.mod Ms (fun q hq hl => by subst hl; exact ol.apart_obj z9 (by decide) hq)
  · have hi' : i < E.length + 1 := by simpa using hi
    by_cases e0 : i = E.length
    · subst e0
      rw [evn_app_eq]
      simp only [evUpd, if_true]
      exact kp he
    · have e2 : evUpd V E.length v i = V i := by simp [evUpd, e0]
      rw [e2, evn_app_lt (by omega)]
      exact kp ((h.ev i (by omega)).ext x8)
  · rcases fr9 q hq with k | k
    · exact h.fr q k
    · have h1 := h.md.size
      have h2 := x8.size
      omega
theorem tmod4 (a : Int) : -4 < a.tmod 4 ∧ a.tmod 4 < 4 := by
  by_cases h : 0 ≤ a
  · rw [Int.tmod_eq_emod_of_nonneg h]; omega
  · obtain ⟨b, rfl⟩ : ∃ b, a = -b := ⟨-a, by omega⟩
    rw [Int.neg_tmod, Int.tmod_eq_emod_of_nonneg (by omega)]; omega
theorem flat_evI {E : List Ev} {last : Int} {val : UInt8} (h : FlatOk E last val) (hl : E.length ≤ 40) : ∀ i, i < E.length → EvI (evn E i) := by
  intro i hi
  rcases h.ev i hi with ⟨a, x, s, h1, h2, h3⟩ | ⟨a, x, f, s, h1, h2, h3, h4⟩
  · rw [h1]
    exact ⟨by show I64 a; unfold I64; omega, i64_s 2 rfl, i64_s 0 rfl, i64_s 0 rfl, i64_s 1 rfl, fun y hy => by cases hy⟩
  · rw [h1]
    refine ⟨by show I64 a; unfold I64; omega, i64_s 1 rfl, i64_s 0 rfl, i64_s 0 rfl, i64_s 1 rfl, fun y hy => ?_⟩
    rw [List.mem_singleton.1 hy]
    rcases h4 with ⟨h5, _⟩ | ⟨j, _, _, h5, h6, _⟩
    · rw [h5]; exact i64_s (-1) rfl
    · rw [h5]; unfold I64; omega
theorem st_own {W : World} {a : Int} {x : UInt8} {s : Bool} {g : Nat} (h : W.heap[g]? = some (.cells #[.int .u8 (x.toNat : Int)] 5 (0, 0))) : EvOwn W (st16 a x s) (stW g) :=
  ⟨Own.nil W _ _, built_own (n := 1) (sz := 1) h rfl (by simp [maxLen]), Own.nil W _ _⟩
theorem ld_own {W : World} {a : Int} {x : UInt8} {f : Int} {s : Bool} {g g' : Nat} (h : W.heap[g]? = some (.cells #[.int .u8 (x.toNat : Int)] 5 (0, 0))) (h' : W.heap[g']? = some (.cells #[.int .i64 f] 3 (0, 0))) : EvOwn W (ld16 a x f s) (ldW g g') :=
  ⟨built_own (n := 1) (sz := 1) h rfl (by simp [maxLen]), Own.nil W _ _, built_own (n := 1) (sz := 1) h' rfl (by simp [maxLen])⟩
theorem GrowAt.drew {w0 : World} {g : Nat} {E : List Ev} {hv : Value} {V : Nat → Vs} {wr : World} (h : GrowAt w0 g E hv V wr) : GrowAt w0 g E hv V wr.drew := ⟨Ext.blk ((Mod.refl _ _).drew) h.box, h.row.ext ((Mod.refl _ _).drew), fun i hi => (h.ev i hi).ext ((Mod.refl _ _).drew), h.fr, h.md.drew⟩
set_option maxRecDepth 100000 in
set_option maxHeartbeats 4000000 in
theorem modelFlat_all (w : World) (v0 v1 v2 : Value) (ks : List Int) (ws : List UInt8) (gs : List Int) (alone : Bool) (h0 : IntsAt w v0 ks) (h1 : BytesAt w v1 ws) (h2 : IntsAt w v2 gs) :
    Calls Try.prog 9 #[v0, v1, v2, .bool alone] w (FPost true w) := by
  have l0 := h0.sl.run_len (P := Try.prog) II.und 3
  have l1 := Sl.run_len (P := Try.prog) h1 IB.und 3
  have l2 := h2.sl.run_len (P := Try.prog) II.und 3
  have I0 := Lib.hid (h0.sl.run_idx (P := Try.prog) II.und II.size .i64)
  have I1 := Lib.hid (Sl.run_idx (P := Try.prog) h1 IB.und IB.size .i64)
  have I2 := Lib.hid (h2.sl.run_idx (P := Try.prog) II.und II.size .i64)
  have HA := Lib.hid (And.intro h0 (And.intro h1 h2))
  clear h0 h1 h2
  go_enter Try.func9, Try.ntmps9
  go_wp2_with fail
  refine (first16_any _).mono ?_
  rintro e w1 ⟨rfl, x1⟩
  by_cases hgood : ¬ (40 : Int) < (ks.length : Int) ∧ ¬ (ws.length : Int) < (ks.length : Int) ∧ ¬ (gs.length : Int) < (ks.length : Int)
  case neg =>
    rcases (by omega : (40 : Int) < (ks.length : Int) ∨ (¬ (40 : Int) < (ks.length : Int) ∧ (ws.length : Int) < (ks.length : Int)) ∨ (¬ (40 : Int) < (ks.length : Int) ∧ ¬ (ws.length : Int) < (ks.length : Int) ∧ (gs.length : Int) < (ks.length : Int))) with z1 | ⟨z1, z2⟩ | ⟨z1, z2, z3⟩
    all_goals
      clear hgood
      go_wp2_with fail
      refine (first16_any _).mono ?_
      rintro e w2 ⟨rfl, x2⟩
      go_wp2_with fail
      go_ret
      exact ⟨rfl, x1.trans x2⟩
  have HWL : Hid (ws.length ≥ ks.length ∧ gs.length ≥ ks.length ∧ (ks.length : Int) ≤ 40) := Lib.hid (by omega)
  go_upto_region 3 with fail
  go_cut [33] (fun s33 wq => s33 = .bool false ∧ w1 = wq)
  case first =>
    obtain ⟨z1, z2, z3⟩ := hgood
    go_wp2_with fail
    go_meet
    exact ⟨by simp; omega, rfl⟩
  case rest =>
  obtain ⟨rfl, rfl⟩ := hcut
  clear hgood
  have hkl : (ks.length : Int) ≤ 40 := HWL.out.2.2
  have HX1 := Lib.hid x1
  go_upto_region 6 with fail
  obtain ⟨wm, hwm⟩ : ∃ W, W = w1.alloc (.cells #[.slice none 0 0, .slice none 0 0] 25) := ⟨_, rfl⟩
  obtain ⟨g, hg⟩ : ∃ g, g = w1.heap.size := ⟨_, rfl⟩
  have bm : wm.heap[g]? = some (.cells #[.slice none 0 0, .slice none 0 0] 25 (0, 0)) := by rw [hwm, hg]; exact heap_alloc_new _ _
  have xm : Ext w1 wm := by rw [hwm]; exact (Mod.refl _ _).alloc _
  rw [← hwm, ← hg]
  have HXM := Lib.hid (And.intro xm hg)
  have HGR : Hid (GrowAt wm g [] (.slice none 0 0) (fun _ => stW 0) wm) := Lib.hid ⟨bm, Own.nil _ _ _, fun i hi => absurd hi (Nat.not_lt_zero _), fun q hq => (by cases hq), Mod.refl _ _⟩
  clear hwm hg bm xm x1
  go_wp2_with fail
  go_loopw [10, 11, 12] (fun s10 s11 s12 wr => ∃ (i : Nat) (E : List Ev) (last : Int) (val : UInt8) (hv : Value) (V : Nat → Vs), i ≤ ks.length ∧ s10 = .int .i64 last ∧ s11 = .int .u8 (val.toNat : Int) ∧ s12 = .int .i64 (i : Int) ∧ E.length = i ∧ FlatOk E last val ∧ (-1 ≤ last ∧ last ≤ 40) ∧ GrowAt wm g E hv V wr) (fun _ _ s _ => ks.length - (intOf s).toNat)
  case atStart => exact ⟨0, [], -1, 0, _, _, Nat.zero_le _, rfl, rfl, rfl, rfl, flat_nil, by decide, HGR.out⟩
  case round =>
    obtain ⟨i, E, last, val, hv, V, hi, rfl, rfl, rfl, hel, hfl, hlr, hgr⟩ := hrel
    have HEL := Lib.hid hel
    have HFL := Lib.hid hfl
    have HG := Lib.hid hgr
    have XI : Hid (Ext w wr) := Lib.hid (HX1.out.trans (HXM.out.1.trans' hgr.md (fun q hq => .inr (by have := HXM.out.2; omega))))
    by_cases hlt : i < ks.length
    · have hlt' : (i : Int) < (ks.length : Int) := by omega
      have hi40 : E.length ≤ 40 := by omega
      have j0 := I0.out i hlt
      have j1 := I1.out i (by have := HWL.out; omega)
      have j2 := I2.out i (by have := HWL.out; omega)
      simp only [Nat.mul_one] at j0 j1 j2
      have c0 := (HA.out.1.ext XI.out).cell hlt
      have c1 := BytesAt.cell (HA.out.2.1.ext XI.out) (show i < ws.length by have := HWL.out; omega)
      have c2 := (HA.out.2.2.ext XI.out).cell (show i < gs.length by have := HWL.out; omega)
      have hlow : ∀ k, fp v1 k → k < w.heap.size := fun k hk => Sl.lt HA.out.2.1 (by decide) hk
      obtain ⟨k, hk⟩ : ∃ x, x = ks[i] := ⟨_, rfl⟩
      obtain ⟨x, hx⟩ : ∃ y, y = ws[i]'(by have := HWL.out; omega) := ⟨_, rfl⟩
      obtain ⟨a, ha⟩ : ∃ x, x = gs[i]'(by have := HWL.out; omega) := ⟨_, rfl⟩
      rw [← hk] at c0
      rw [← hx] at c1
      rw [← ha] at c2
      obtain ⟨r, hr⟩ : ∃ x, x = a.tmod 4 := ⟨_, rfl⟩
      obtain ⟨hrr1, hrr2⟩ : -4 < r ∧ r < 4 := by rw [hr]; exact tmod4 a
      have hr4 : a.tmod 4 = r := hr.symm
      obtain ⟨nb, hnb⟩ : ∃ b, b = decide (r < 0) := ⟨_, rfl⟩
      have hnb' : decide (r < 0) = nb := hnb.symm
      have HNB : Hid ((nb = true → r < 0) ∧ (nb = false → ¬ r < 0)) := Lib.hid (by rw [hnb]; simp)
      have d0 : wr.cell? ⟨g, 0, none⟩ = some hv := by simp [World.cell?, hgr.box]
      have KM : Hid (∀ w', Mod (fun q => hv.ownBlock = some q) wr w' → (w'.cell? ⟨g, 0, none⟩ = some hv ∧ w'.cell? (at_ v1 i) = some (.int .u8 (x.toNat : Int))) ∧ w'.frozen? ⟨g, 0, none⟩ = false) := Lib.hid fun w' M => by
        have h5 := M.blk hgr.box (fun h => hgr.row.apart_obj hgr.box (by decide) h)
        refine ⟨⟨by simp [World.cell?, h5], ?_⟩, by simp [World.frozen?, h5]⟩
        have hb : BytesAt w' v1 ws := Sl.mod (HA.out.2.1.ext XI.out) (by decide) M (fun q hq hl => by have h7 := hlow q hq; have h8 := hgr.fr q hl; have h9 := HXM.out.1.size; have h10 := HX1.out.size; omega)
        rw [hx]
        exact BytesAt.cell hb (by have := HWL.out; omega)
      have HGN : Hid ((at_ v1 i).block ≠ g) := Lib.hid (fun e => by
        have hc := (KM.out wr (Mod.refl _ _)).1.2
        have hb := hgr.box
        obtain ⟨la, lc, hsh, _⟩ := hgr.row.sl.shape
        rw [hsh, ← e] at hb
        unfold World.cell? at hc
        rw [hb] at hc
        rcases ho : (at_ v1 i).off with _ | _ | n <;> simp [ho] at hc)
      clear hel hfl hgr hk hx ha hr hlow hnb
      go_upto_if 47 with fail
      go_cut [13] (fun s13 wq => (∃ z : Int, s13 = .int .i64 z ∧ 0 ≤ z ∧ z ≤ 3) ∧ wr = wq)
      case first =>
        clear hnb'
        cases nb with
        | true =>
          have hr0 := HNB.out.1 rfl
          go_wp2_with fail
          go_meet
          exact ⟨⟨-r, by go_num, by omega, by omega⟩, rfl⟩
        | false =>
          have hr0 := HNB.out.2 rfl
          go_wp2_with fail
          go_meet
          exact ⟨⟨r, rfl, by omega, by omega⟩, rfl⟩
      case rest =>
        obtain ⟨⟨z, rfl, hz1, hz2⟩, rfl⟩ := hcut
        go_upto_if 50 with fail
        go_cut [13] (fun s13 wq => (∃ z : Int, s13 = .int .i64 z ∧ 0 ≤ z ∧ z ≤ 3) ∧ wr = wq)
        case first =>
          cases alone with
          | false =>
            go_wp2_with fail
            go_meet
            exact ⟨⟨z, rfl, hz1, hz2⟩, rfl⟩
          | true =>
            go_wp2_with fail
            go_meet
            exact ⟨⟨0, rfl, by omega, by omega⟩, rfl⟩
        case rest =>
          obtain ⟨⟨y, rfl, hy1, hy2⟩, rfl⟩ := hcut
          go_upto_region 15 with fail
          go_cut [14] (fun s14 wq => (∃ b : Bool, s14 = .bool b) ∧ wr = wq)
          case first =>
            cases alone with
            | false =>
              go_wp2_with fail
              go_meet
              exact ⟨⟨true, rfl⟩, rfl⟩
            | true =>
              go_wp2_with fail
              go_meet
              exact ⟨⟨_, rfl⟩, rfl⟩
          case rest =>
            obtain ⟨⟨sq, rfl⟩, rfl⟩ := hcut
            clear hz1 hz2 hrr1 hrr2 hr4 hnb'
            by_cases hev : k.tmod 2 = 0
            · have he : (k.tmod 2 == 0) = true := by simpa using hev
              clear hev
              go_upto_region 17 with fail
              refine wp_region_planL [12] [(0, 3), (1, 0), (2, 0), (3, 0), (4, 0), (5, 0), (6, 0), (7, 0), (8, 1), (9, 1), (10, 1), (11, 3), (12, 2)] (fun w' => w'.cell? ⟨g, 0, none⟩ = some hv ∧ w'.cell? (at_ v1 i) = some (.int .u8 (x.toNat : Int))) (by kernel_rfl) (by kernel_rfl) (by kernel_rfl) (fun _ d _ _ _ h => by cases d <;> exact h) ((KM.out _ (Ext.mod (Mod.drew (Mod.refl _ _)) _)).1) ?_
              simp only [planLL, getO]
              (refine planL_pure (v := ?_) (by rfl) (fun wS => ?_) ?_; rotate_left; (focus (go_simp; (try with_reducible rfl); done)); (try simp only [Act.put, List.setIfInBounds_toArray, List.set_cons_zero, List.set_cons_succ]))
              (refine planL_take (v := ?_) (by rfl) (fun wS hS => ?_) ?_; rotate_left; (focus ((try dsimp only at hS); go_simp; (try with_reducible rfl); done)); (try simp only [Act.put, List.setIfInBounds_toArray, List.set_cons_zero, List.set_cons_succ]))
              (refine planL_take (v := ?_) (by rfl) (fun wS hS => ?_) ?_; rotate_left; (focus ((try dsimp only at hS); go_simp; (try with_reducible rfl); done)); (try simp only [Act.put, List.setIfInBounds_toArray, List.set_cons_zero, List.set_cons_succ]))
              (refine planL_take (v := ?_) (by rfl) (fun wS hS => ?_) ?_; rotate_left; (focus ((try dsimp only at hS); go_simp; (try with_reducible rfl); done)); (try simp only [Act.put, List.setIfInBounds_toArray, List.set_cons_zero, List.set_cons_succ]))
              (refine planL_take (v := ?_) (by rfl) (fun wS hS => ?_) ?_; rotate_left; (focus ((try dsimp only at hS); go_simp; (try with_reducible rfl); done)); (try simp only [Act.put, List.setIfInBounds_toArray, List.set_cons_zero, List.set_cons_succ]))
              (refine planL_take (v := ?_) (by rfl) (fun wS hS => ?_) ?_; rotate_left; (focus ((try dsimp only at hS); go_simp; (try with_reducible rfl); done)); (try simp only [Act.put, List.setIfInBounds_toArray, List.set_cons_zero, List.set_cons_succ]))
              (refine planL_take (v := ?_) (by rfl) (fun wS hS => ?_) ?_; rotate_left; (focus ((try dsimp only at hS); go_simp; (try with_reducible rfl); done)); (try simp only [Act.put, List.setIfInBounds_toArray, List.set_cons_zero, List.set_cons_succ]))
              (refine planL_take (v := ?_) (by rfl) (fun wS hS => ?_) ?_; rotate_left; (focus ((try dsimp only at hS); go_simp; (try with_reducible rfl); done)); (try simp only [Act.put, List.setIfInBounds_toArray, List.set_cons_zero, List.set_cons_succ]))
              refine planL_call (fun K hK => ?_)
              go_simp
              go_at_call 52; refine (st16_any _ y x sq).mono ?_; rintro en w8 ⟨g8, rfl, b8, y8⟩; have E8 : Ext wr w8 := Mod.trans (Mod.drew (Mod.refl _ _)) y8
              refine hK.out _ _ ((KM.out _ (Ext.mod E8 _)).1) ?_
              clear hK K
              (try simp only [Act.put, List.setIfInBounds_toArray, List.set_cons_zero, List.set_cons_succ])
              refine planL_call (fun K hK => ?_)
              go_simp
              skip
              refine hK.out _ _ ((KM.out _ (Ext.mod (E8.alloc _) _)).1) ?_
              clear hK K
              (try simp only [Act.put, List.setIfInBounds_toArray, List.set_cons_zero, List.set_cons_succ])
              refine planL_call (fun K hK => ?_)
              refine step_app IEv rfl (.tmp 67) (.tmp 75) rfl (HG.out.row.ext (E8.alloc _)) (built_sl (n := 1) (g := w8.heap.size) (e := 45) (cs := evArr (st16 y x sq) (stW g8)) (by simp only [heap_alloc_if, if_true]; (try rfl)) rfl (by simp only [maxLen]; omega)) (one10 rfl rfl rfl) (by simp [Act.eval]) (by simp [Act.eval]) (by omega) (by simp only [maxLen]; omega) ?_; intro hv9 w9 ol9 gr9 fr9 nn9; obtain ⟨la9, lc9, hlv9, _⟩ := ol9.sl.shape; subst hlv9; have M9 : Mod (fun q => hv.ownBlock = some q) w8 w9 := Mod.grown (Mod.alloc (Mod.refl _ _) _) gr9 (fun q h => .inl h); have MM : Mod (fun q => hv.ownBlock = some q) wr w9 := (Ext.mod E8 _).trans M9; obtain ⟨⟨e50, -⟩, ef5⟩ := KM.out w9 MM
              refine hK.out _ _ ((KM.out _ MM).1) ?_
              clear hK K
              (try simp only [Act.put, List.setIfInBounds_toArray, List.set_cons_zero, List.set_cons_succ])
              (refine planL_pure (v := ?_) (by rfl) (fun wS => ?_) ?_; rotate_left; (focus (go_simp; (try with_reducible rfl); done)); (try simp only [Act.put, List.setIfInBounds_toArray, List.set_cons_zero, List.set_cons_succ]))
              refine planL_late (fun K hK => ?_)
              go_simp
              refine hK.out _ _ ?_
              clear hK K
              (try simp only [Act.put, List.setIfInBounds_toArray, List.set_cons_zero, List.set_cons_succ])
              refine planL_nil ?_
              obtain ⟨w10, hw10⟩ : ∃ W, W = w9.setCell ⟨g, 0, none⟩ (.slice la9 (E.length + 1) lc9) := ⟨_, rfl⟩
              rw [← hw10]
              have KW : Hid (∀ w', Ext w10 w' → w'.cell? (at_ v1 i) = some (.int .u8 (x.toNat : Int))) := Lib.hid fun w' k => Ext.cell k (by rw [hw10]; exact Mod.cell (F := fun q => q = g) (Mod.setCell (F := fun q => q = g) (Mod.refl _ _) (.inl rfl) _) (KM.out w9 MM).1.2 (fun e => HGN.out e))
              have HW10 := Lib.hid hw10
              clear hw10
              go_upto_region 18 with fail
              refine wp_region_plan [(0, true), (1, true), (2, true), (3, true), (4, true), (5, true), (6, true)] (fun w' => w'.cell? (at_ v1 i) = some (.int .u8 (x.toNat : Int))) (by kernel_rfl) (by kernel_rfl) (by kernel_rfl) (fun _ d _ _ _ h => by cases d <;> exact h) (KW.out _ (Mod.drew (Mod.refl _ _))) ?_
              simp only [planL, getO]
              iterate 7 (refine plan_take (v := ?_) (by rfl) (fun wS hS => ?_) ?_; rotate_left; (focus ((try dsimp only at hS); go_simp; (try with_reducible rfl); done)); (try simp only [Act.put, List.setIfInBounds_toArray, List.set_cons_zero, List.set_cons_succ]))
              refine plan_nil ?_
              have H9 := Lib.hid (And.intro ol9 (And.intro fr9 (And.intro M9 (And.intro E8 (st_own (a := y) (s := sq) b8)))))
              clear ol9 fr9 M9 MM e50 ef5 gr9 nn9
              go_wp2_with fail
              go_roundw
              case rel =>
                have hw10 := HW10.out
                obtain ⟨ol9, fr9, M9, E8, oO⟩ := H9.out
                have P := HG.out.push E8 oO M9 ol9 (fun q hq => by
                  rcases fr9 q hq with k | k
                  · exact .inl k
                  · simp only [World.size_alloc] at k; exact .inr (by omega))
                exact ⟨i + 1, _, _, _, _, _, by omega, (by rw [HEL.out]), rfl, by go_num, by rw [List.length_append, HEL.out]; rfl, HFL.out.st (a := y) (by omega) (by omega) x sq, by omega, by rw [hw10]; exact P.drew⟩
              case measure => simp [intOf]; omega
            · have he : (k.tmod 2 == 0) = false := by simpa using hev
              clear hev
              go_upto_region 19 with fail
              refine wp_region_planL [10] [(0, 3), (1, 0), (2, 0), (3, 0), (4, 0), (5, 0), (6, 1), (7, 1), (8, 1), (9, 3), (10, 2)] (fun w' => w'.cell? ⟨g, 0, none⟩ = some hv ∧ w'.cell? (at_ v1 i) = some (.int .u8 (x.toNat : Int))) (by kernel_rfl) (by kernel_rfl) (by kernel_rfl) (fun _ d _ _ _ h => by cases d <;> exact h) ((KM.out _ (Ext.mod (Mod.drew (Mod.refl _ _)) _)).1) ?_
              simp only [planLL, getO]
              (refine planL_pure (v := ?_) (by rfl) (fun wS => ?_) ?_; rotate_left; (focus (go_simp; (try with_reducible rfl); done)); (try simp only [Act.put, List.setIfInBounds_toArray, List.set_cons_zero, List.set_cons_succ]))
              (refine planL_take (v := ?_) (by rfl) (fun wS hS => ?_) ?_; rotate_left; (focus ((try dsimp only at hS); go_simp; (try with_reducible rfl); done)); (try simp only [Act.put, List.setIfInBounds_toArray, List.set_cons_zero, List.set_cons_succ]))
              (refine planL_take (v := ?_) (by rfl) (fun wS hS => ?_) ?_; rotate_left; (focus ((try dsimp only at hS); go_simp; (try with_reducible rfl); done)); (try simp only [Act.put, List.setIfInBounds_toArray, List.set_cons_zero, List.set_cons_succ]))
              (refine planL_take (v := ?_) (by rfl) (fun wS hS => ?_) ?_; rotate_left; (focus ((try dsimp only at hS); go_simp; (try with_reducible rfl); done)); (try simp only [Act.put, List.setIfInBounds_toArray, List.set_cons_zero, List.set_cons_succ]))
              (refine planL_take (v := ?_) (by rfl) (fun wS hS => ?_) ?_; rotate_left; (focus ((try dsimp only at hS); go_simp; (try with_reducible rfl); done)); (try simp only [Act.put, List.setIfInBounds_toArray, List.set_cons_zero, List.set_cons_succ]))
              (refine planL_take (v := ?_) (by rfl) (fun wS hS => ?_) ?_; rotate_left; (focus ((try dsimp only at hS); go_simp; (try with_reducible rfl); done)); (try simp only [Act.put, List.setIfInBounds_toArray, List.set_cons_zero, List.set_cons_succ]))
              refine planL_call (fun K hK => ?_)
              go_simp
              go_at_call 53; refine (ld16_any _ y val last sq).mono ?_; rintro en w8 ⟨g8, g9, rfl, b8, b9, y8⟩; have E8 : Ext wr w8 := Mod.trans (Mod.drew (Mod.refl _ _)) y8
              refine hK.out _ _ ((KM.out _ (Ext.mod E8 _)).1) ?_
              clear hK K
              (try simp only [Act.put, List.setIfInBounds_toArray, List.set_cons_zero, List.set_cons_succ])
              refine planL_call (fun K hK => ?_)
              go_simp
              skip
              refine hK.out _ _ ((KM.out _ (Ext.mod (E8.alloc _) _)).1) ?_
              clear hK K
              (try simp only [Act.put, List.setIfInBounds_toArray, List.set_cons_zero, List.set_cons_succ])
              refine planL_call (fun K hK => ?_)
              refine step_app IEv rfl (.tmp 84) (.tmp 90) rfl (HG.out.row.ext (E8.alloc _)) (built_sl (n := 1) (g := w8.heap.size) (e := 45) (cs := evArr (ld16 y val last sq) (ldW g8 g9)) (by simp only [heap_alloc_if, if_true]; (try rfl)) rfl (by simp only [maxLen]; omega)) (one10 rfl rfl rfl) (by simp [Act.eval]) (by simp [Act.eval]) (by omega) (by simp only [maxLen]; omega) ?_; intro hv9 w9 ol9 gr9 fr9 nn9; obtain ⟨la9, lc9, hlv9, _⟩ := ol9.sl.shape; subst hlv9; have M9 : Mod (fun q => hv.ownBlock = some q) w8 w9 := Mod.grown (Mod.alloc (Mod.refl _ _) _) gr9 (fun q h => .inl h); have MM : Mod (fun q => hv.ownBlock = some q) wr w9 := (Ext.mod E8 _).trans M9; obtain ⟨⟨e50, -⟩, ef5⟩ := KM.out w9 MM
              refine hK.out _ _ ((KM.out _ MM).1) ?_
              clear hK K
              (try simp only [Act.put, List.setIfInBounds_toArray, List.set_cons_zero, List.set_cons_succ])
              (refine planL_pure (v := ?_) (by rfl) (fun wS => ?_) ?_; rotate_left; (focus (go_simp; (try with_reducible rfl); done)); (try simp only [Act.put, List.setIfInBounds_toArray, List.set_cons_zero, List.set_cons_succ]))
              refine planL_late (fun K hK => ?_)
              go_simp
              refine hK.out _ _ ?_
              clear hK K
              (try simp only [Act.put, List.setIfInBounds_toArray, List.set_cons_zero, List.set_cons_succ])
              refine planL_nil ?_
              have H9 := Lib.hid (And.intro ol9 (And.intro fr9 (And.intro M9 (And.intro E8 (ld_own (a := y) (s := sq) b8 b9)))))
              clear ol9 fr9 M9 MM e50 ef5 gr9 nn9
              go_wp2_with fail
              go_roundw
              case rel =>
                obtain ⟨ol9, fr9, M9, E8, oO⟩ := H9.out
                have P := HG.out.push E8 oO M9 ol9 (fun q hq => by
                  rcases fr9 q hq with k | k
                  · exact .inl k
                  · simp only [World.size_alloc] at k; exact .inr (by omega))
                exact ⟨i + 1, _, _, _, _, _, by omega, rfl, rfl, by go_num, by rw [List.length_append, HEL.out]; rfl, HFL.out.ld (a := y) (by omega) (by omega) sq, by omega, P⟩
              case measure => simp [intOf]; omega
    · have hlt' : ¬ (i : Int) < (ks.length : Int) := by omega
      have hE40 : E.length ≤ 40 := by omega
      have HMAY : Hid (mayL ⟨E, []⟩ = true) := Lib.hid (flat_may hfl hE40)
      have HVAL : Hid (valB ⟨E, []⟩ (natL ⟨E, []⟩) = true) := Lib.hid (flat_val hfl hE40)
      have HE64 : Hid ((Lg.mk E []).ev.length ≤ 64) := Lib.hid (by show E.length ≤ 64; omega)
      have HLI : Hid (LogIn wr hv (.slice none 0 0) V ⟨E, []⟩) := Lib.hid ⟨hgr.row.sl, fun j hj => (hgr.ev j hj).at_ (flat_evI hfl hE40 j hj), (Own.nil _ 48 2).sl, fun j hj => absurd hj (Nat.not_lt_zero _)⟩
      have KZ : Hid (∀ w', Ext wr w' → w'.cell? ⟨g, 0, none⟩ = some hv ∧ w'.cell? ⟨g, 1, none⟩ = some (.slice none 0 0)) := Lib.hid fun w' k => ⟨by simp [World.cell?, Ext.blk k hgr.box], by simp [World.cell?, Ext.blk k hgr.box]⟩
      clear hel hfl hgr
      go_upto_region 20 with fail
      refine wp_region_plan [(0, false), (1, true), (2, true), (3, false), (4, true), (5, true), (6, true), (7, true), (8, false), (9, false), (10, true), (11, true)] (fun w' => w'.cell? ⟨g, 0, none⟩ = some hv ∧ w'.cell? ⟨g, 1, none⟩ = some (.slice none 0 0)) (by kernel_rfl) (by kernel_rfl) (by kernel_rfl) (fun _ d _ _ _ h => by cases d <;> exact h) (KZ.out _ (Mod.drew (Mod.refl _ _))) ?_
      simp only [planL, getO]
      refine plan_call (fun K hK => ?_)
      go_simp
      go_at_call 37; refine (first16_any _).mono ?_; rintro en v1' ⟨rfl, y1⟩; have U1 : Ext wr v1' := Mod.trans (Mod.drew (Mod.refl _ _)) y1
      refine hK.out _ _ (KZ.out _ U1) ?_
      clear hK K
      (try simp only [Act.put, List.setIfInBounds_toArray, List.set_cons_zero, List.set_cons_succ])
      iterate 2 (refine plan_take (v := ?_) (by rfl) (fun wS hS => ?_) ?_; rotate_left; (focus ((try dsimp only at hS); go_simp; (try with_reducible rfl); done)); (try simp only [Act.put, List.setIfInBounds_toArray, List.set_cons_zero, List.set_cons_succ]))
      refine plan_call (fun K hK => ?_)
      go_simp
      go_at_call 28; refine (may_any _ hv (.slice none 0 0) V ⟨E, []⟩ (HLI.out.ext U1)).mono ?_; rintro en v2' ⟨rfl, y2⟩; have U2 : Ext wr v2' := Mod.trans U1 y2; rw [HMAY.out]
      refine hK.out _ _ (KZ.out _ U2) ?_
      clear hK K
      (try simp only [Act.put, List.setIfInBounds_toArray, List.set_cons_zero, List.set_cons_succ])
      iterate 4 (refine plan_take (v := ?_) (by rfl) (fun wS hS => ?_) ?_; rotate_left; (focus ((try dsimp only at hS); go_simp; (try with_reducible rfl); done)); (try simp only [Act.put, List.setIfInBounds_toArray, List.set_cons_zero, List.set_cons_succ]))
      refine plan_call (fun K hK => ?_)
      go_simp
      go_at_call 50; refine (natural_any _ hv (.slice none 0 0) V ⟨E, []⟩ (HLI.out.ext U2) HE64.out).mono ?_; rintro en v3' ⟨nv, rfl, nn, y3⟩; have U3 : Ext wr v3' := Mod.trans U2 y3; have HNV := Lib.hid nn; clear nn
      refine hK.out _ _ (KZ.out _ U3) ?_
      clear hK K
      (try simp only [Act.put, List.setIfInBounds_toArray, List.set_cons_zero, List.set_cons_succ])
      refine plan_call (fun K hK => ?_)
      go_simp
      go_at_call 47; refine (valid_any _ hv (.slice none 0 0) V ⟨E, []⟩ (HLI.out.ext U3) HE64.out nv _ HNV.out).mono ?_; rintro en v4' ⟨rfl, y4⟩; have U4 : Ext wr v4' := Mod.trans U3 y4; rw [HVAL.out]
      refine hK.out _ _ (KZ.out _ U4) ?_
      clear hK K
      (try simp only [Act.put, List.setIfInBounds_toArray, List.set_cons_zero, List.set_cons_succ])
      iterate 2 (refine plan_take (v := ?_) (by rfl) (fun wS hS => ?_) ?_; rotate_left; (focus ((try dsimp only at hS); go_simp; (try with_reducible rfl); done)); (try simp only [Act.put, List.setIfInBounds_toArray, List.set_cons_zero, List.set_cons_succ]))
      refine plan_nil ?_
      go_wp2_with fail
      go_ret
      exact ⟨rfl, XI.out.trans U4⟩
end Go.Proofs.Ythmkcgiiakinmaa
