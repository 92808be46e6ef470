/-
  FifoPlays: the walk of renlaw19.FifoPlays. No condition.
-/
import Derived.Test.YtnnciakdeoopaaaFifoDoes
import Derived.Test.YtnnciakdeoopaaaFifoFirst
import Derived.Test.YtnnciakdeoopaaaBlkSame
import Derived.Test.YtnnciakdeoopaaaRefMake
namespace Go.Proofs.Ytnnciakdeoopaaa
open Go.Ren Go.RowKit
set_option linter.unusedVariables false
theorem Four.leftU {w w' : World} {q m x y : Value} {room : Nat} {E E2 : List Ent} {M M2 M' : List Blk} {S U T R U' : Nat → Prop} (h : Four w q m x y room E M E2 M2 S U T R) (hm : BlocksAt w' m M' U') (md : Mod U w w') (fs : ∀ k, U' k → U k ∨ w.heap.size ≤ k) : Four w' q m x y room E M' E2 M2 S U' T R :=
  ⟨h.q.mod md (fun k hs hu => h.su k hs hu), hm, h.x.mod md (fun k ht hu => h.ut k hu ht), h.y.mod md (fun k hr hu => h.ur k hu hr),
    fun k hs hu => (fs k hu).elim (fun hu => h.su k hs hu) (fun h1 => by have := h.q.lt hs; omega), h.st, h.sr,
    fun k hu ht => (fs k hu).elim (fun hu => h.ut k hu ht) (fun h1 => by have := h.x.lt ht; omega),
    fun k hu hr => (fs k hu).elim (fun hu => h.ur k hu hr) (fun h1 => by have := h.y.lt hr; omega), h.tr⟩
theorem Four.rightR {w w' : World} {q m x y : Value} {room : Nat} {E E2 : List Ent} {M M2 M' : List Blk} {S U T R R' : Nat → Prop} (h : Four w q m x y room E M E2 M2 S U T R) (hy : RefAt w' y M' R') (md : Mod R w w') (fs : ∀ k, R' k → R k ∨ w.heap.size ≤ k) : Four w' q m x y room E M E2 M' S U T R' :=
  ⟨h.q.mod md (fun k hs hr => h.sr k hs hr), h.m.mod md (fun k hu hr => h.ur k hu hr), h.x.mod md (fun k ht hr => h.tr k ht hr), hy, h.su, h.st,
    fun k hs hr => (fs k hr).elim (fun hr => h.sr k hs hr) (fun h1 => by have := h.q.lt hs; omega), h.ut,
    fun k hu hr => (fs k hr).elim (fun hr => h.ur k hu hr) (fun h1 => by have := h.m.lt hu; omega),
    fun k ht hr => (fs k hr).elim (fun hr => h.tr k ht hr) (fun h1 => by have := h.x.lt ht; omega)⟩
/-- Another queue goes on in the old one's place. -/
theorem Four.swap {w w' : World} {q q' m x y : Value} {room : Nat} {E E2 : List Ent} {M M2 : List Blk} {S U T R S' F : Nat → Prop} (h : Four w q m x y room E M E2 M2 S U T R) (hq : QueueAt w' q' room E S') (md : Mod F w w') (hF : ∀ k, F k → S k ∨ w.heap.size ≤ k) (fs : ∀ k, S' k → w.heap.size ≤ k) : Four w' q' m x y room E M E2 M2 S' U T R :=
  ⟨hq, h.m.mod md (fun k hu hf => (hF k hf).elim (fun hs => h.su k hs hu) (fun h1 => by have := h.m.lt hu; omega)), h.x.mod md (fun k ht hf => (hF k hf).elim (fun hs => h.st k hs ht) (fun h1 => by have := h.x.lt ht; omega)), h.y.mod md (fun k hr hf => (hF k hf).elim (fun hs => h.sr k hs hr) (fun h1 => by have := h.y.lt hr; omega)),
    fun k hs hu => by have := fs k hs; have := h.m.lt hu; omega, fun k hs hu => by have := fs k hs; have := h.x.lt hu; omega, fun k hs hu => by have := fs k hs; have := h.y.lt hu; omega, h.ut, h.ur, h.tr⟩
theorem rq_nil (w : World) (room : Nat) (hr : room ≤ 64) : RqAt (w.alloc (.cells #[.int .i64 (room : Int), .slice none 0 0] 77)) (.pointer (some ⟨w.heap.size, 0, none⟩)) room [] (fun k => k = w.heap.size) := by
  refine ⟨w.heap.size, .slice none 0 0, fun _ => .slice none 0 0, rfl, ⟨heap_alloc_new _ _, Own.nil _ _ _, fun i h => by simp at h, fun i k h => by simp at h, fun i h => by simp at h, hr, Nat.zero_le _⟩, fun k => ⟨fun h => .inl h, fun h => ?_⟩⟩
  rcases h with h | h | ⟨i, hi, _⟩
  · exact h
  · cases h
  · simp at hi
theorem ref_nil19 (w : World) : RefAt (w.alloc (.cells #[.slice none 0 0, .slice none 0 0] 54)) (.pointer (some ⟨w.heap.size, 0, none⟩)) [] (fun k => k = w.heap.size) := by
  refine ⟨w.heap.size, .slice none 0 0, .slice none 0 0, fun _ => .slice none 0 0, fun _ => .slice none 0 0, rfl, ⟨by simp only [heap_alloc_if, if_true], Own.nil _ _ _, Own.nil _ _ _, fun i h => by simp at h, fun i h => by simp at h, fun i j k h => by simp at h, fun i j k h => by simp at h, bok_nil⟩, fun k => ⟨fun h => .inl h, fun h => ?_⟩⟩
  rcases h with h | h | h | ⟨i, hi, _⟩
  · exact h
  · cases h
  · cases h
  · simp at hi
def Stand19 (w wr : World) (q m x y : Value) (room : Nat) (E : List Ent) (M : List Blk) : Prop := ∃ S U T R, Four wr q m x y room E M E M S U T R ∧ Ext w wr ∧ ∀ k, P4 S U T R k → w.heap.size ≤ k
set_option maxRecDepth 100000 in
set_option maxHeartbeats 3200000 in
theorem plays19_all (size : Int) (v : Value) (l : List Op19) (w : World) (hs : I64 size) (hv : Ops19 w v l) :
    Calls Try.prog 12 #[.int .i64 size, v] w fun e w' => e = .returned (.bool true) ∧ Ext w w' := by
  obtain ⟨xs, hsl⟩ := hv.len
  have ll := hsl.run_len (P := Try.prog) IO19.und 3
  have HI := Lib.hid (hsl.run_idx (P := Try.prog) IO19.und IO19.size .i64)
  have HV := Lib.hid hv
  clear hsl hv
  go_enter Try.func12, Try.ntmps12
  go_wp2_with fail
  refine (first19_any _).mono ?_
  rintro e w1 ⟨rfl, x1⟩
  go_wp2_with fail
  refine (qnew_any _ size).mono ?_
  rintro e w2 ⟨hA, hB⟩
  by_cases hr : 1 ≤ size ∧ size ≤ 64
  case neg =>
    obtain ⟨rfl, rfl⟩ := hB hr
    clear hA hB
    go_wp2_with fail
    refine (new_any _).mono ?_
    rintro e w3 ⟨pb, S3, rfl, B3, x3, -⟩
    have HX := Lib.hid (x1.trans x3)
    clear B3 x1 x3
    rcases (by omega : size < 1 ∨ (¬ size < 1 ∧ 64 < size)) with z | ⟨z, z2⟩
    all_goals
      clear hr
      go_wp2_with fail
      refine (first19_any _).mono ?_
      rintro e w4 ⟨rfl, x4⟩
      go_wp2_with fail
      go_ret
      exact ⟨rfl, HX.out.trans x4⟩
  obtain ⟨pq, S2, rfl, Q2, x2, f2⟩ := hA hr
  clear hA hB
  obtain ⟨n, hsz⟩ : ∃ n : Nat, size = (n : Int) := ⟨size.toNat, by omega⟩
  rw [show size.toNat = n by omega] at Q2
  have hn1 : ¬ size < 1 := by omega
  have hn2 : ¬ (64 : Int) < size := by omega
  have HSZ : Hid (size = (n : Int) ∧ n ≤ 64) := Lib.hid ⟨hsz, by omega⟩
  clear hsz
  go_wp2_with fail
  refine (new_any _).mono ?_
  rintro e w3 ⟨pb, S3, rfl, B3, x3, f3⟩
  have X3 : Ext w w3 := (x1.trans x2).trans x3
  have H3 : Hid (Ext w w3 ∧ QueueAt w3 (.pointer (some ⟨pq, 0, none⟩)) n [] S2 ∧ BlocksAt w3 (.pointer (some ⟨pb, 0, none⟩)) [] S3 ∧ (∀ k, S2 k → w.heap.size ≤ k) ∧ (∀ k, S3 k → w.heap.size ≤ k) ∧ ∀ k, S2 k → ¬ S3 k) :=
    Lib.hid ⟨X3, Q2.ext x3, B3, fun k hk => Nat.le_trans x1.size (f2 k hk), fun k hk => Nat.le_trans (x1.trans x2).size (f3 k hk), fun k hk hk' => by have := Q2.lt hk; have := f3 k hk'; omega⟩
  clear x1 Q2 x2 f2 B3 x3 f3 X3 hr
  go_wp2_with fail
  refine (few19_any _ v l (HV.out.ext H3.out.1)).mono ?_
  rintro e w4 ⟨⟨r, rfl, hfew⟩, x4⟩
  have HX4 := Lib.hid x4
  have HFEW := Lib.hid hfew
  clear x4 hfew
  cases r with
  | false =>
    go_wp2_with fail
    refine (first19_any _).mono ?_
    rintro e w5 ⟨rfl, x5⟩
    go_wp2_with fail
    go_ret
    exact ⟨rfl, (H3.out.1.trans HX4.out).trans x5⟩
  | true =>
    obtain ⟨hl300, hsm⟩ := HFEW.out rfl
    have HSM := Lib.hid hsm
    clear hsm
    go_upto_region 11 with fail
    obtain ⟨wa, hwa⟩ : ∃ W, W = w4.alloc (.cells #[.int .i64 size, .slice none 0 0] 77) := ⟨_, rfl⟩
    obtain ⟨w5, hw5⟩ : ∃ W, W = wa.alloc (.cells #[.slice none 0 0, .slice none 0 0] 54) := ⟨_, rfl⟩
    have R1 : RqAt wa (.pointer (some ⟨w4.heap.size, 0, none⟩)) n [] (fun k => k = w4.heap.size) := by rw [hwa, HSZ.out.1]; exact rq_nil w4 n HSZ.out.2
    have hsa : wa.heap.size = w4.heap.size + 1 := by rw [hwa]; simp
    have R2 : RefAt w5 (.pointer (some ⟨w4.heap.size + 1, 0, none⟩)) [] (fun k => k = w4.heap.size + 1) := by have h := ref_nil19 wa; rw [← hw5, hsa] at h; exact h
    have xa : Ext w4 wa := by rw [hwa]; exact (Mod.refl _ _).alloc _
    have xb : Ext wa w5 := by rw [hw5]; exact (Mod.refl _ _).alloc _
    rw [← hwa, ← hw5]
    have ST : Stand19 w w5 (.pointer (some ⟨pq, 0, none⟩)) (.pointer (some ⟨pb, 0, none⟩)) (.pointer (some ⟨w4.heap.size, 0, none⟩)) (.pointer (some ⟨w4.heap.size + 1, 0, none⟩)) n [] [] := by
      obtain ⟨X3, Q3, B3, g2, g3, hd⟩ := H3.out
      have x35 := (HX4.out.trans xa).trans xb
      have z4 := HX4.out.size
      have z3 := X3.size
      refine ⟨S2, S3, fun k => k = w4.heap.size, fun k => k = w4.heap.size + 1, ⟨Q3.ext x35, B3.ext x35, R1.ext xb, R2, hd, fun k hs e => by have := Q3.lt hs; omega, fun k hs e => by have := Q3.lt hs; omega, fun k hs e => by have := B3.lt hs; omega, fun k hs e => by have := B3.lt hs; omega, fun k e e2 => by omega⟩, X3.trans x35, fun k hp => ?_⟩
      rcases hp with hp | hp | hp | hp
      · exact g2 k hp
      · exact g3 k hp
      · omega
      · omega
    obtain ⟨px, hpx⟩ : ∃ p, p = w4.heap.size := ⟨_, rfl⟩
    obtain ⟨py, hpy⟩ : ∃ p, p = w4.heap.size + 1 := ⟨_, rfl⟩
    rw [← hpy, ← hpx] at ST ⊢
    clear hwa hw5 R1 hsa R2 xa xb hpx hpy hn1 hn2
    go_wp2_with fail
    go_loopw [10] (fun s wr => ∃ (i : Nat) (M : List Blk), i ≤ 3 ∧ s = .int .i64 (i : Int) ∧ Stand19 w wr (.pointer (some ⟨pq, 0, none⟩)) (.pointer (some ⟨pb, 0, none⟩)) (.pointer (some ⟨px, 0, none⟩)) (.pointer (some ⟨py, 0, none⟩)) n [] M) (fun i _ => 3 - (intOf i).toNat)
    case atStart => exact ⟨0, [], by omega, rfl, ST⟩
    case round =>
      obtain ⟨i, M, hi, rfl, ST⟩ := hrel
      obtain ⟨S, U, T, R, h4, X, hP⟩ := ST
      by_cases hlt : i < 3
      · have hlt' : (i : Int) < 3 := by omega
        have H4 := Lib.hid (And.intro h4 (And.intro X hP))
        clear h4 X hP
        go_wp2_with fail
        refine (make_any _ _ M U H4.out.1.m _).mono ?_
        rintro e w6 ⟨rfl, U6, B6, m6, f6⟩
        have H6 := Lib.hid (And.intro (H4.out.1.leftU B6 m6 f6) (And.intro m6 f6))
        clear B6 m6 f6
        go_wp2_with fail
        refine (rmake_any _ _ M R H6.out.1.y _).mono ?_
        rintro e w7 ⟨rfl, R7, B7, m7, f7⟩
        have H7 := Lib.hid (And.intro (H6.out.1.rightR B7 m7 f7) (And.intro m7 f7))
        clear B7 m7 f7
        go_wp2_with fail
        go_roundw
        case rel =>
          obtain ⟨h4, X, hP⟩ := H4.out
          obtain ⟨A6, m6, f6⟩ := H6.out
          obtain ⟨A7, m7, f7⟩ := H7.out
          refine ⟨i + 1, _, by omega, by go_num, S, U6, T, R7, A7, (X.trans' m6 (fun k hk => .inr (hP k (.inr (.inl hk))))).trans' m7 (fun k hk => .inr (hP k (.inr (.inr (.inr hk))))), fun k hk => ?_⟩
          have z1 := X.size
          have z2 := m6.size
          rcases hk with hk | hk | hk | hk
          · exact hP k (.inl hk)
          · exact (f6 k hk).elim (fun h => hP k (.inr (.inl h))) (fun h => by omega)
          · exact hP k (.inr (.inr (.inl hk)))
          · exact (f7 k hk).elim (fun h => hP k (.inr (.inr (.inr h)))) (fun h => by omega)
        case measure => simp [intOf]; omega
      · have hlt' : ¬ (i : Int) < 3 := by omega
        have HST : Hid (Stand19 w wr (.pointer (some ⟨pq, 0, none⟩)) (.pointer (some ⟨pb, 0, none⟩)) (.pointer (some ⟨px, 0, none⟩)) (.pointer (some ⟨py, 0, none⟩)) n [] M) := Lib.hid ⟨S, U, T, R, h4, X, hP⟩
        clear h4 X hP
        go_wp2_with fail
        go_loopw [5, 11] (fun s5 s11 wz => ∃ (i g : Nat) (E : List Ent) (M : List Blk), i ≤ l.length ∧ s11 = .int .i64 (i : Int) ∧ s5 = .pointer (some ⟨g, 0, none⟩) ∧ Stand19 w wz s5 (.pointer (some ⟨pb, 0, none⟩)) (.pointer (some ⟨px, 0, none⟩)) (.pointer (some ⟨py, 0, none⟩)) n E M) (fun _ i _ => l.length - (intOf i).toNat)
        case atStart => exact ⟨0, pq, [], M, Nat.zero_le _, rfl, rfl, HST.out⟩
        case round =>
          clear HST hlt hlt' hi
          obtain ⟨i, g, E, M, hi, rfl, rfl, ST⟩ := hrel
          obtain ⟨S, U, T, R, h4, X, hP⟩ := ST
          by_cases hlt : i < l.length
          · have hlt' : (i : Int) < (l.length : Int) := by omega
            have i1 := HI.out i hlt
            obtain ⟨u, hu, b0, bb⟩ := HV.out.cells hlt
            obtain ⟨A, hA⟩ : ∃ A, A = at_ v (i * 10) := ⟨_, rfl⟩
            obtain ⟨o, ho⟩ : ∃ o, o = l[i] := ⟨_, rfl⟩
            rw [← hA] at i1
            simp only [← hA] at b0 bb
            rw [← ho] at b0 bb hu
            have hsz := HSM.out i hlt
            rw [← ho] at hsz
            have KC : Hid (∀ w', Ext w w' → w'.cell? A = some (.int .i64 o.kind) ∧ w'.cell? ⟨A.block, A.off + 1, none⟩ = some (.int .i64 o.blk) ∧ w'.cell? ⟨A.block, A.off + 2, none⟩ = some (.int .i64 o.at_) ∧ w'.cell? ⟨A.block, A.off + 3, none⟩ = some (.int .i64 o.e.blk) ∧ w'.cell? ⟨A.block, A.off + 4, none⟩ = some (.int .i64 o.e.at_) ∧ w'.cell? ⟨A.block, A.off + 5, none⟩ = some u.e ∧ w'.cell? ⟨A.block, A.off + 6, none⟩ = some (.int .i64 o.e.by_) ∧ w'.cell? ⟨A.block, A.off + 7, none⟩ = some (.bool o.e.tears) ∧ w'.cell? ⟨A.block, A.off + 8, none⟩ = some u.b ∧ w'.cell? ⟨A.block, A.off + 9, none⟩ = some u.y) := Lib.hid fun w' x =>
              ⟨Ext.cell x b0, Ext.cell x (bb 1 _ (by decide) rfl), Ext.cell x (bb 2 _ (by decide) rfl), Ext.cell x (bb 3 _ (by decide) rfl), Ext.cell x (bb 4 _ (by decide) rfl), Ext.cell x (bb 5 _ (by decide) rfl), Ext.cell x (bb 6 _ (by decide) rfl), Ext.cell x (bb 7 _ (by decide) rfl), Ext.cell x (bb 8 _ (by decide) rfl), Ext.cell x (bb 9 _ (by decide) rfl)⟩
            have HFP : Hid (∀ k, (fp u.e k ∨ fp u.b k ∨ fp u.y k) → k < w.heap.size) := Lib.hid fun k hk => hk.elim (fun h => Sl.lt hu.e (by decide) h) (fun h => h.elim (fun h => Sl.lt hu.b (by decide) h) (fun h => Sl.lt hu.y.sl (by decide) h))
            have HU := Lib.hid hu
            have H4 := Lib.hid (And.intro h4 (And.intro X hP))
            have HSZ2 := Lib.hid hsz
            obtain ⟨c0, c1, c2, c3, c4, c5, c6, c7, c8, c9⟩ := KC.out _ X
            clear h4 X hP hu b0 bb hA ho hsz
            rcases (by omega : o.kind < 0 ∨ (¬ o.kind < 0 ∧ 4 < o.kind) ∨ (¬ o.kind < 0 ∧ ¬ 4 < o.kind)) with z | ⟨z, z2⟩ | ⟨z, z2⟩
            · skip
              go_wp2_with fail
              refine (qcopy_any _ _ n E S H4.out.1.q).mono ?_
              rintro en v1 ⟨gc, SS, rfl, Q1, x1, f1⟩
              have H1 := Lib.hid (And.intro Q1 (And.intro x1 f1))
              clear Q1 x1 f1
              go_wp2_with fail
              refine (new_any _).mono ?_
              rintro en v2 ⟨pb2, S2, rfl, B2, x2, f2⟩
              have H2 := Lib.hid (And.intro B2 (And.intro x2 f2))
              clear B2 x2 f2
              go_wp2_with fail
              refine (qdrain_any _ _ _ n E S (H4.out.1.q.ext (H1.out.2.1.trans H2.out.2.1)) [] S2 H2.out.1 (fun k hs h2 => by have h3 := H4.out.1.q.lt hs; have h4 := H2.out.2.2 k h2; have h5 := H1.out.2.1.size; omega)).mono ?_
              rintro en v3 ⟨rfl, S3, Q3, B3, m3, s3⟩
              have HM3 := Lib.hid m3
              clear Q3 B3 m3 s3 c0 c1 c2 c3 c4 c5 c6 c7 c8 c9
              have XX : Mod (fun k => S k ∨ S2 k) wr v3 := (Ext.mod (H1.out.2.1.trans H2.out.2.1) _).trans HM3.out
              have XW : Ext w v3 := H4.out.2.1.trans' XX (fun k hk => .inr (hk.elim (fun h => H4.out.2.2 k (.inl h)) (fun h => by have h1 := H2.out.2.2 k h; have h2 := H4.out.2.1.size; have h3 := H1.out.2.1.size; omega)))
              have HA : Hid (Four v3 (.pointer (some ⟨gc, 0, none⟩)) (.pointer (some ⟨pb, 0, none⟩)) (.pointer (some ⟨px, 0, none⟩)) (.pointer (some ⟨py, 0, none⟩)) n E M E M SS U T R) := Lib.hid (H4.out.1.swap (((H1.out.1.ext H2.out.2.1)).mod HM3.out (fun k hk hf => hf.elim (fun h => by have h1 := H1.out.2.2 k hk; have h2 := H4.out.1.q.lt h; omega) (fun h => by have h1 := H2.out.2.2 k h; have h2 := H1.out.1.lt hk; omega))) XX (fun k hk => hk.imp id (fun h => by have h1 := H2.out.2.2 k h; have h3 := H1.out.2.1.size; omega)) H1.out.2.2)
              have HXX : Hid (Ext w v3 ∧ ∀ k, P4 SS U T R k → w.heap.size ≤ k) := Lib.hid ⟨XW, fun k hk => hk.elim (fun h => by have h1 := H1.out.2.2 k h; have h2 := H4.out.2.1.size; omega) (fun h => H4.out.2.2 k (.inr h))⟩
              have HOP : Hid (OpIn v3 o u ∧ o.b.length ≤ 20000 ∧ o.y.length ≤ 20000) := Lib.hid ⟨HU.out.ext XW, HSZ2.out.1, HSZ2.out.2.1⟩
              obtain ⟨c0, c1, c2, c3, c4, c5, c6, c7, c8, c9⟩ := KC.out _  XW
              clear XX XW
              go_wp2_with fail
              refine (does_any _ (.pointer (some ⟨gc, 0, none⟩)) _ _ _ n E M SS U T R HA.out o u HOP.out.1 (fun k hk hp => by have h1 := HFP.out k hk; have h2 := HXX.out.2 k hp; omega) HOP.out.2).mono ?_
              rintro en w8 ⟨rfl, S8, T8, A8, m8, s8, t8⟩
              have H8 := Lib.hid (And.intro A8 (And.intro m8 (And.intro s8 t8)))
              clear A8 m8 s8 t8 c0 c1 c2 c3 c4 c5 c6 c7 c8 c9
              go_wp2_with fail
              refine (same19_any _ _ _ n _ S8 T8 H8.out.1.q H8.out.1.x).mono ?_
              rintro en w9 ⟨rfl, x9⟩
              have H9 := Lib.hid x9
              clear x9
              go_wp2_with fail
              go_roundw
              case rel =>
                obtain ⟨A8, m8, s8, t8⟩ := H8.out
                have z1 := HXX.out.1.size
                refine ⟨i + 1, gc, _, _, by omega, by go_num, rfl, S8, U, T8, R, A8.ext H9.out, (HXX.out.1.trans' m8 (fun k hk => .inr (HXX.out.2 k hk))).trans H9.out, fun k hk => ?_⟩
                rcases hk with hk | hk | hk | hk
                · exact (s8 k hk).elim (fun h => HXX.out.2 k (.inl h)) (fun h => by omega)
                · exact HXX.out.2 k (.inr (.inl hk))
                · exact (t8 k hk).elim (fun h => HXX.out.2 k (.inr (.inr (.inl h)))) (fun h => by omega)
                · exact HXX.out.2 k (.inr (.inr (.inr hk)))
              case measure => simp [intOf]; omega
            · skip
              go_wp2_with fail
              refine (qcopy_any _ _ n E S H4.out.1.q).mono ?_
              rintro en v1 ⟨gc, SS, rfl, Q1, x1, f1⟩
              have H1 := Lib.hid (And.intro Q1 (And.intro x1 f1))
              clear Q1 x1 f1
              go_wp2_with fail
              refine (new_any _).mono ?_
              rintro en v2 ⟨pb2, S2, rfl, B2, x2, f2⟩
              have H2 := Lib.hid (And.intro B2 (And.intro x2 f2))
              clear B2 x2 f2
              go_wp2_with fail
              refine (qdrain_any _ _ _ n E S (H4.out.1.q.ext (H1.out.2.1.trans H2.out.2.1)) [] S2 H2.out.1 (fun k hs h2 => by have h3 := H4.out.1.q.lt hs; have h4 := H2.out.2.2 k h2; have h5 := H1.out.2.1.size; omega)).mono ?_
              rintro en v3 ⟨rfl, S3, Q3, B3, m3, s3⟩
              have HM3 := Lib.hid m3
              clear Q3 B3 m3 s3 c0 c1 c2 c3 c4 c5 c6 c7 c8 c9
              have XX : Mod (fun k => S k ∨ S2 k) wr v3 := (Ext.mod (H1.out.2.1.trans H2.out.2.1) _).trans HM3.out
              have XW : Ext w v3 := H4.out.2.1.trans' XX (fun k hk => .inr (hk.elim (fun h => H4.out.2.2 k (.inl h)) (fun h => by have h1 := H2.out.2.2 k h; have h2 := H4.out.2.1.size; have h3 := H1.out.2.1.size; omega)))
              have HA : Hid (Four v3 (.pointer (some ⟨gc, 0, none⟩)) (.pointer (some ⟨pb, 0, none⟩)) (.pointer (some ⟨px, 0, none⟩)) (.pointer (some ⟨py, 0, none⟩)) n E M E M SS U T R) := Lib.hid (H4.out.1.swap (((H1.out.1.ext H2.out.2.1)).mod HM3.out (fun k hk hf => hf.elim (fun h => by have h1 := H1.out.2.2 k hk; have h2 := H4.out.1.q.lt h; omega) (fun h => by have h1 := H2.out.2.2 k h; have h2 := H1.out.1.lt hk; omega))) XX (fun k hk => hk.imp id (fun h => by have h1 := H2.out.2.2 k h; have h3 := H1.out.2.1.size; omega)) H1.out.2.2)
              have HXX : Hid (Ext w v3 ∧ ∀ k, P4 SS U T R k → w.heap.size ≤ k) := Lib.hid ⟨XW, fun k hk => hk.elim (fun h => by have h1 := H1.out.2.2 k h; have h2 := H4.out.2.1.size; omega) (fun h => H4.out.2.2 k (.inr h))⟩
              have HOP : Hid (OpIn v3 o u ∧ o.b.length ≤ 20000 ∧ o.y.length ≤ 20000) := Lib.hid ⟨HU.out.ext XW, HSZ2.out.1, HSZ2.out.2.1⟩
              obtain ⟨c0, c1, c2, c3, c4, c5, c6, c7, c8, c9⟩ := KC.out _  XW
              clear XX XW
              go_wp2_with fail
              refine (does_any _ (.pointer (some ⟨gc, 0, none⟩)) _ _ _ n E M SS U T R HA.out o u HOP.out.1 (fun k hk hp => by have h1 := HFP.out k hk; have h2 := HXX.out.2 k hp; omega) HOP.out.2).mono ?_
              rintro en w8 ⟨rfl, S8, T8, A8, m8, s8, t8⟩
              have H8 := Lib.hid (And.intro A8 (And.intro m8 (And.intro s8 t8)))
              clear A8 m8 s8 t8 c0 c1 c2 c3 c4 c5 c6 c7 c8 c9
              go_wp2_with fail
              refine (same19_any _ _ _ n _ S8 T8 H8.out.1.q H8.out.1.x).mono ?_
              rintro en w9 ⟨rfl, x9⟩
              have H9 := Lib.hid x9
              clear x9
              go_wp2_with fail
              go_roundw
              case rel =>
                obtain ⟨A8, m8, s8, t8⟩ := H8.out
                have z1 := HXX.out.1.size
                refine ⟨i + 1, gc, _, _, by omega, by go_num, rfl, S8, U, T8, R, A8.ext H9.out, (HXX.out.1.trans' m8 (fun k hk => .inr (HXX.out.2 k hk))).trans H9.out, fun k hk => ?_⟩
                rcases hk with hk | hk | hk | hk
                · exact (s8 k hk).elim (fun h => HXX.out.2 k (.inl h)) (fun h => by omega)
                · exact HXX.out.2 k (.inr (.inl hk))
                · exact (t8 k hk).elim (fun h => HXX.out.2 k (.inr (.inr (.inl h)))) (fun h => by omega)
                · exact HXX.out.2 k (.inr (.inr (.inr hk)))
              case measure => simp [intOf]; omega
            · have HA := Lib.hid H4.out.1
              have HXX := Lib.hid H4.out.2
              have HOP : Hid (OpIn wr o u ∧ o.b.length ≤ 20000 ∧ o.y.length ≤ 20000) := Lib.hid ⟨HU.out.ext H4.out.2.1, HSZ2.out.1, HSZ2.out.2.1⟩
              go_wp2_with fail
              refine (does_any _ (.pointer (some ⟨g, 0, none⟩)) _ _ _ n E M S U T R HA.out o u HOP.out.1 (fun k hk hp => by have h1 := HFP.out k hk; have h2 := HXX.out.2 k hp; omega) HOP.out.2).mono ?_
              rintro en w8 ⟨rfl, S8, T8, A8, m8, s8, t8⟩
              have H8 := Lib.hid (And.intro A8 (And.intro m8 (And.intro s8 t8)))
              clear A8 m8 s8 t8 c0 c1 c2 c3 c4 c5 c6 c7 c8 c9
              go_wp2_with fail
              refine (same19_any _ _ _ n _ S8 T8 H8.out.1.q H8.out.1.x).mono ?_
              rintro en w9 ⟨rfl, x9⟩
              have H9 := Lib.hid x9
              clear x9
              go_wp2_with fail
              go_roundw
              case rel =>
                obtain ⟨A8, m8, s8, t8⟩ := H8.out
                have z1 := HXX.out.1.size
                refine ⟨i + 1, g, _, _, by omega, by go_num, rfl, S8, U, T8, R, A8.ext H9.out, (HXX.out.1.trans' m8 (fun k hk => .inr (HXX.out.2 k hk))).trans H9.out, fun k hk => ?_⟩
                rcases hk with hk | hk | hk | hk
                · exact (s8 k hk).elim (fun h => HXX.out.2 k (.inl h)) (fun h => by omega)
                · exact HXX.out.2 k (.inr (.inl hk))
                · exact (t8 k hk).elim (fun h => HXX.out.2 k (.inr (.inr (.inl h)))) (fun h => by omega)
                · exact HXX.out.2 k (.inr (.inr (.inr hk)))
              case measure => simp [intOf]; omega
          · have hlt' : ¬ (i : Int) < (l.length : Int) := by omega
            have H4 := Lib.hid (And.intro h4 (And.intro X hP))
            clear h4 X hP
            go_wp2_with fail
            refine (first19_any _).mono ?_
            rintro e w8 ⟨rfl, x8⟩
            go_wp2_with fail
            refine (same_any _ _ _ _ _ _ (H4.out.1.m.ext x8) (H4.out.1.y.ext x8)).mono ?_
            rintro e w9 ⟨rfl, x9⟩
            go_wp2_with fail
            go_ret
            exact ⟨rfl, (H4.out.2.1.trans x8).trans x9⟩
end Go.Proofs.Ytnnciakdeoopaaa
