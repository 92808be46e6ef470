/-
  The contract of renlaw19.does: one operation of both. No condition.
-/
import Derived.Test.YtnnciakdeoopaaaOp19
import Derived.Test.YtnnciakdeoopaaaFifoSame
import Derived.Test.YtnnciakdeoopaaaFifoTear
import Derived.Test.YtnnciakdeoopaaaRqPut
import Derived.Test.YtnnciakdeoopaaaRqTear
import Derived.Test.YtnnciakdeoopaaaRqOver
namespace Go.Proofs.Ytnnciakdeoopaaa
open Go.Ren Go.RowKit
set_option linter.unusedVariables false
theorem copied_bytes19 {w : World} {v : Value} {l : List UInt8} (h : Own w 5 1 v (l.map bv).length (l.map bv)) : BytesAt w v l := by
  have h1 := h.sl
  rw [List.length_map] at h1
  exact h1
theorem copied_ints19 {w : World} {v : Value} {l : List Int} (h : Own w 3 1 v (l.map iv).length (l.map iv)) : Sl w v 1 l.length (l.map iv) := by
  have h1 := h.sl
  rw [List.length_map] at h1
  exact h1
theorem qoverY_ok19 {w : World} {p : Value} {room : Nat} {E : List Ent} {S : Nat → Prop} (h : QueueAt w p room E S) {k a : Int} {b : List UInt8} {y : List Int} (hy : ∀ x ∈ y, I64 x) : ∀ x ∈ qoverY E k a b y, I64 x := by
  obtain ⟨pq, lv, V, _, hin, _⟩ := h.ex
  unfold qoverY
  split
  · refine overY_ok (fun e he => ?_) hy
    obtain ⟨i, hi, rfl⟩ := List.getElem_of_mem he
    have h1 := (hin.ok i hi).by_
    rw [ent_eq hi] at h1
    unfold I64; omega
  · exact hy
def P4 (S U T R : Nat → Prop) (k : Nat) : Prop := S k ∨ U k ∨ T k ∨ R k
/-- Where the play stands: the program's queue and blocks, the document's, all apart. -/
structure Four (w : World) (q m x y : Value) (room : Nat) (E : List Ent) (M : List Blk) (E2 : List Ent) (M2 : List Blk) (S U T R : Nat → Prop) : Prop where
  q : QueueAt w q room E S
  m : BlocksAt w m M U
  x : RqAt w x room E2 T
  y : RefAt w y M2 R
  su : ∀ k, S k → ¬ U k
  st : ∀ k, S k → ¬ T k
  sr : ∀ k, S k → ¬ R k
  ut : ∀ k, U k → ¬ T k
  ur : ∀ k, U k → ¬ R k
  tr : ∀ k, T k → ¬ R k
theorem Four.ext {w w' : World} {q m x y : Value} {room : Nat} {E E2 : List Ent} {M M2 : List Blk} {S U T R : Nat → Prop} (h : Four w q m x y room E M E2 M2 S U T R) (z : Ext w w') : Four w' q m x y room E M E2 M2 S U T R :=
  ⟨h.q.ext z, h.m.ext z, h.x.ext z, h.y.ext z, h.su, h.st, h.sr, h.ut, h.ur, h.tr⟩
theorem Four.left {w w' : World} {q m x y : Value} {room : Nat} {E E2 E' : List Ent} {M M2 M' : List Blk} {S U T R S' : Nat → Prop} (h : Four w q m x y room E M E2 M2 S U T R) (hq : QueueAt w' q room E' S') (hm : BlocksAt w' m M' U) (md : Mod (fun k => S k ∨ U k) w w') {P : Nat → Prop} (fs : ∀ k, S' k → S k ∨ P k) (hP : ∀ k, P k → w.heap.size ≤ k := by intro k h; exact h) : Four w' q m x y room E' M' E2 M2 S' U T R :=
  ⟨hq, hm, h.x.mod md (fun k ht hs => hs.elim (fun hs => h.st k hs ht) (fun hu => h.ut k hu ht)), h.y.mod md (fun k ht hs => hs.elim (fun hs => h.sr k hs ht) (fun hu => h.ur k hu ht)),
    fun k hs hu => (fs k hs).elim (fun hs => h.su k hs hu) (fun hp => by have h1 := hP k hp; have h2 := h.m.lt hu; omega),
    fun k hs hu => (fs k hs).elim (fun hs => h.st k hs hu) (fun hp => by have h1 := hP k hp; have h2 := h.x.lt hu; omega),
    fun k hs hu => (fs k hs).elim (fun hs => h.sr k hs hu) (fun hp => by have h1 := hP k hp; have h2 := h.y.lt hu; omega), h.ut, h.ur, h.tr⟩
theorem Four.right {w w' : World} {q m x y : Value} {room : Nat} {E E2 E' : List Ent} {M M2 M' : List Blk} {S U T R T' : Nat → Prop} (h : Four w q m x y room E M E2 M2 S U T R) (hx : RqAt w' x room E' T') (hy : RefAt w' y M' R) (md : Mod (fun k => T k ∨ R k) w w') (fs : ∀ k, T' k → T k ∨ w.heap.size ≤ k) : Four w' q m x y room E M E' M' S U T' R :=
  ⟨h.q.mod md (fun k hs ht => ht.elim (fun ht => h.st k hs ht) (fun hr => h.sr k hs hr)), h.m.mod md (fun k hs ht => ht.elim (fun ht => h.ut k hs ht) (fun hr => h.ur k hs hr)), hx, hy, h.su,
    fun k hs ht => (fs k ht).elim (fun ht => h.st k hs ht) (fun h1 => by have h2 := h.q.lt hs; omega), h.sr,
    fun k hs ht => (fs k ht).elim (fun ht => h.ut k hs ht) (fun h1 => by have h2 := h.m.lt hs; omega), h.ur,
    fun k ht hr => (fs k ht).elim (fun ht => h.tr k ht hr) (fun h1 => by have h2 := h.y.lt hr; omega)⟩
def doesE (room : Nat) (E : List Ent) (o : Op19) : List Ent := if o.kind = 0 then qput room E o.e else if o.kind = 2 then E.tail else if o.kind = 3 then qtear E else if o.kind = 4 then [] else E
def doesM (E : List Ent) (M : List Blk) (o : Op19) : List Blk := if o.kind = 2 then qflushM E M else if o.kind = 3 then qtearM E M else if o.kind = 4 then qdrainM E M else M
def DoesPost (q m x y : Value) (room : Nat) (E' : List Ent) (M' : List Blk) (S U T R : Nat → Prop) (w : World) (e : Ending) (w' : World) : Prop :=
  e = .returned (.bool true) ∧ ∃ S' T', Four w' q m x y room E' M' E' M' S' U T' R ∧ Mod (P4 S U T R) w w' ∧ (∀ k, S' k → S k ∨ w.heap.size ≤ k) ∧ ∀ k, T' k → T k ∨ w.heap.size ≤ k
set_option maxRecDepth 100000 in
set_option maxHeartbeats 3200000 in
theorem does_any (w : World) (q m x y' : Value) (room : Nat) (E : List Ent) (M : List Blk) (S U T R : Nat → Prop) (h : Four w q m x y' room E M E M S U T R) (o : Op19) (v : Os) (ho : OpIn w o v) (hv : ∀ k, (fp v.e k ∨ fp v.b k ∨ fp v.y k) → ¬ P4 S U T R k) (hl : o.b.length ≤ 20000 ∧ o.y.length ≤ 20000) :
    Calls Try.prog 45 #[q, m, x, y', .agg #[.int .i64 o.kind, .int .i64 o.blk, .int .i64 o.at_, .int .i64 o.e.blk, .int .i64 o.e.at_, v.e, .int .i64 o.e.by_, .bool o.e.tears, v.b, v.y]] w (DoesPost q m x y' room (doesE room E o) (doesM E M o) S U T R w) := by
  have k1 := Sl.cells_eq ho.e
  have k2 := Sl.cells_eq ho.b
  have k3 := Sl.cells_eq ho.y.sl
  have t1 := Sl.run_st (P := Try.prog) ho.e
  have t2 := Sl.run_st (P := Try.prog) ho.b
  have t3 := Sl.run_st (P := Try.prog) ho.y.sl
  have HI := Lib.hid ho
  obtain ⟨kd, bl, pa, e, b, y⟩ := o
  obtain ⟨ve, vb, vy⟩ := v
  obtain ⟨hl1, hl2⟩ := hl
  simp only at k1 k2 k3 t1 t2 t3 ho hv hl1 hl2 ⊢
  obtain ⟨w0, hw0⟩ : ∃ w0, w0 = w.alloc (.cells #[.int .i64 kd, .int .i64 bl, .int .i64 pa, .int .i64 e.blk, .int .i64 e.at_, ve, .int .i64 e.by_, .bool e.tears, vb, vy] 79) := ⟨_, rfl⟩
  obtain ⟨g, hg⟩ : ∃ g, g = w.heap.size := ⟨_, rfl⟩
  have x0 : Ext w w0 := by rw [hw0]; exact (Mod.refl _ _).alloc _
  have h0 : w0.heap[g]? = some (.cells #[.int .i64 kd, .int .i64 bl, .int .i64 pa, .int .i64 e.blk, .int .i64 e.at_, ve, .int .i64 e.by_, .bool e.tears, vb, vy] 79 (0, 0)) := by rw [hw0, hg]; exact heap_alloc_new _ _
  have hgP : ¬ P4 S U T R g := fun hp => by
    rcases hp with hp | hp | hp | hp
    · have := h.q.lt hp; omega
    · have := h.m.lt hp; omega
    · have := h.x.lt hp; omega
    · have := h.y.lt hp; omega
  have KEY : Hid (∀ w', Mod (P4 S U T R) w0 w' → (w'.cell? ⟨g, 0, none⟩ = some (.int .i64 kd) ∧ w'.cell? ⟨g, 1, none⟩ = some (.int .i64 bl) ∧ w'.cell? ⟨g, 2, none⟩ = some (.int .i64 pa)) ∧ (w'.cell? ⟨g, 3, none⟩ = some (.int .i64 e.blk) ∧ w'.cell? ⟨g, 4, none⟩ = some (.int .i64 e.at_) ∧ w'.cell? ⟨g, 5, none⟩ = some ve ∧ w'.cell? ⟨g, 6, none⟩ = some (.int .i64 e.by_) ∧ w'.cell? ⟨g, 7, none⟩ = some (.bool e.tears)) ∧ (w'.cell? ⟨g, 8, none⟩ = some vb ∧ w'.cell? ⟨g, 9, none⟩ = some vy) ∧ BytesAt w' ve e.b ∧ BytesAt w' vb b ∧ IntsAt w' vy y) := Lib.hid fun w' M1 => by
    have h1 := M1.blk h0 hgP
    have hx := ho.ext x0
    exact ⟨by simp [World.cell?, h1], by simp [World.cell?, h1], by simp [World.cell?, h1], BytesAt.mod hx.e M1 (fun k hk => hv k (.inl hk)), BytesAt.mod hx.b M1 (fun k hk => hv k (.inr (.inl hk))), IntsAt.mod hx.y M1 (fun k hk => hv k (.inr (.inr hk)))⟩
  have H4 := Lib.hid (h.ext x0)
  have HW := Lib.hid (And.intro hw0 (And.intro hg x0))
  obtain ⟨d0, d1, d2⟩ := (KEY.out w0 (Mod.refl _ _)).1
  clear hw0 hg x0 h0 hgP h ho hv
  rcases (by omega : kd = 0 ∨ kd = 1 ∨ kd = 2 ∨ kd = 3 ∨ kd = 4 ∨ (kd < 0 ∨ 4 < kd)) with rfl | rfl | rfl | rfl | rfl | hk
  · have HE : Hid (doesE room E ⟨0, bl, pa, e, b, y⟩ = qput room E e) := Lib.hid rfl
    have HM : Hid (doesM E M ⟨0, bl, pa, e, b, y⟩ = M) := Lib.hid rfl
    rw [HE.out, HM.out]
    obtain ⟨Z, hZ⟩ : ∃ Z, Z = qputE room E e := ⟨_, rfl⟩
    have HZ := Lib.hid hZ.symm
    clear hZ
    go_enter Try.func45, Try.ntmps45
    go_upto_region 1 with fail
    rw [← HW.out.1, ← HW.out.2.1]
    clear t1 t2 t3
    go_upto_region 3 with fail
    clear d0 d1 d2
    refine wp_region_plan [(0, true), (1, true), (2, true), (4, true), (5, true), (6, true), (3, false), (7, false), (8, false), (9, true), (10, true)] (fun w' => w'.cell? ⟨g, 3, none⟩ = some (.int .i64 e.blk) ∧ w'.cell? ⟨g, 4, none⟩ = some (.int .i64 e.at_) ∧ w'.cell? ⟨g, 5, none⟩ = some ve ∧ w'.cell? ⟨g, 6, none⟩ = some (.int .i64 e.by_) ∧ w'.cell? ⟨g, 7, none⟩ = some (.bool e.tears)) (by kernel_rfl) (by kernel_rfl) (by kernel_rfl) (fun _ d _ _ _ h => by cases d <;> exact h) ((KEY.out _ (Mod.drew (Mod.refl _ _))).2.1) ?_
    simp only [planL, getO]
    iterate 6 (refine plan_take (v := ?_) (by rfl) (fun wS hS => ?_) ?_; rotate_left; (focus ((try dsimp only at hS); go_simp; (try with_reducible rfl); done)); (try simp only [Act.put, List.setIfInBounds_toArray, List.set_cons_zero, List.set_cons_succ]))
    refine plan_call (fun K hK => ?_)
    go_simp
    go_at_call 38; refine (qput_any _ q room E S (H4.out.q.ext (Mod.drew (Mod.refl _ _))) e ve (KEY.out _ (Mod.drew (Mod.refl _ _))).2.2.2.1 ⟨HI.out.i3, HI.out.i5⟩).mono ?_; rintro en v1 ⟨rfl, S1, q1, m1, s1⟩; have U1 : Mod (P4 S U T R) w0 v1 := Mod.trans (Mod.drew (Mod.refl _ _)) (m1.weak (fun k h => .inl (.inl h))); rw [HZ.out]
    refine hK.out _ _ ((KEY.out _ U1).2.1) ?_
    clear hK K
    (try simp only [Act.put, List.setIfInBounds_toArray, List.set_cons_zero, List.set_cons_succ])
    refine plan_call (fun K hK => ?_)
    go_simp
    go_at_call 64; refine (plain_any _ e.blk e.at_ e.by_ e.tears ve e.b (KEY.out _ U1).2.2.2.1).mono ?_; rintro en v2 ⟨rfl, x2⟩; have U2 : Mod (P4 S U T R) w0 v2 := Mod.trans U1 (x2.mod _); have A1 := (H4.out.ext (Mod.drew (Mod.refl _ _))).left q1 ((H4.out.ext (Mod.drew (Mod.refl _ _))).m.mod m1 (fun k hu hs => H4.out.su k hs hu)) (m1.weak (fun k h => .inl (.inl h))) s1; have A2 := A1.ext x2
    refine hK.out _ _ ((KEY.out _ U2).2.1) ?_
    clear hK K
    (try simp only [Act.put, List.setIfInBounds_toArray, List.set_cons_zero, List.set_cons_succ])
    refine plan_call (fun K hK => ?_)
    go_simp
    go_at_call 63; refine (rput_any _ x room E T A2.x e ve (KEY.out _ U2).2.2.2.1 ⟨HI.out.i3, HI.out.i5⟩).mono ?_; rintro en v3 ⟨rfl, T1, q3, m3, s3⟩; have U3 : Mod (P4 S U T R) w0 v3 := Mod.trans U2 (m3.weak (fun k h => .inl (.inr (.inr (.inl h))))); rw [HZ.out]
    refine hK.out _ _ ((KEY.out _ U3).2.1) ?_
    clear hK K
    (try simp only [Act.put, List.setIfInBounds_toArray, List.set_cons_zero, List.set_cons_succ])
    iterate 2 (refine plan_take (v := ?_) (by rfl) (fun wS hS => ?_) ?_; rotate_left; (focus ((try dsimp only at hS); go_simp; (try with_reducible rfl); done)); (try simp only [Act.put, List.setIfInBounds_toArray, List.set_cons_zero, List.set_cons_succ]))
    refine plan_nil ?_
    have A3 := A2.right q3 (A2.y.mod m3 (fun k hr ht => A2.tr k ht hr)) (m3.weak (fun k h => .inl (.inl h))) s3
    have HF := Lib.hid (And.intro A3 (And.intro U3 (And.intro s1 (And.intro s3 U2))))
    clear A3 A2 A1 q1 m1 s1 x2 q3 m3 s3 U1 U2 U3
    go_wp2_with fail
    go_ret
    obtain ⟨A3, U3, s1, s3, U2⟩ := HF.out
    exact ⟨rfl, S1, T1, A3, (HW.out.2.2.mod _).trans U3, fun k h => (s1 k h).imp id (fun h => Nat.le_trans HW.out.2.2.size h), fun k h => (s3 k h).imp id (fun h => Nat.le_trans HW.out.2.2.size (Nat.le_trans U2.size h))⟩
  · have HE : Hid (doesE room E ⟨1, bl, pa, e, b, y⟩ = E) := Lib.hid rfl
    have HM : Hid (doesM E M ⟨1, bl, pa, e, b, y⟩ = M) := Lib.hid rfl
    rw [HE.out, HM.out]
    go_enter Try.func45, Try.ntmps45
    go_upto_region 1 with fail
    rw [← HW.out.1, ← HW.out.2.1]
    clear t1 t2 t3
    go_upto_region 5 with fail
    clear d0 d1 d2
    refine wp_region_plan [(0, true), (1, true), (3, true), (4, true), (2, false), (5, false), (6, true), (7, true)] (fun w' => w'.cell? ⟨g, 8, none⟩ = some vb ∧ w'.cell? ⟨g, 9, none⟩ = some vy) (by kernel_rfl) (by kernel_rfl) (by kernel_rfl) (fun _ d _ _ _ h => by cases d <;> exact h) ((KEY.out _ (Mod.drew (Mod.refl _ _))).2.2.1) ?_
    simp only [planL, getO]
    iterate 4 (refine plan_take (v := ?_) (by rfl) (fun wS hS => ?_) ?_; rotate_left; (focus ((try dsimp only at hS); go_simp; (try with_reducible rfl); done)); (try simp only [Act.put, List.setIfInBounds_toArray, List.set_cons_zero, List.set_cons_succ]))
    refine plan_call (fun K hK => ?_)
    go_simp
    go_at_call 51; refine (copy_bytes _ vb b (KEY.out _ (Mod.drew (Mod.refl _ _))).2.2.2.2.1 (by omega)).mono ?_; rintro en v1 ⟨vi, rfl, o1, x1, f1⟩; have U1 : Ext w0 v1 := Mod.trans (Mod.drew (Mod.refl _ _)) x1
    refine hK.out _ _ ((KEY.out _ (U1.mod _)).2.2.1) ?_
    clear hK K
    (try simp only [Act.put, List.setIfInBounds_toArray, List.set_cons_zero, List.set_cons_succ])
    refine plan_call (fun K hK => ?_)
    go_simp
    go_at_call 52; refine (copy_ints _ vy y (KEY.out _ (U1.mod _)).2.2.2.2.2 (by omega)).mono ?_; rintro en v2 ⟨vo, rfl, o2, x2, f2⟩; have U2 : Ext w0 v2 := Mod.trans U1 x2
    refine hK.out _ _ ((KEY.out _ (U2.mod _)).2.2.1) ?_
    clear hK K
    (try simp only [Act.put, List.setIfInBounds_toArray, List.set_cons_zero, List.set_cons_succ])
    iterate 2 (refine plan_take (v := ?_) (by rfl) (fun wS hS => ?_) ?_; rotate_left; (focus ((try dsimp only at hS); go_simp; (try with_reducible rfl); done)); (try simp only [Act.put, List.setIfInBounds_toArray, List.set_cons_zero, List.set_cons_succ]))
    refine plan_nil ?_
    have b1 : BytesAt v2 vi b := copied_bytes19 (o1.ext x2)
    have b2 : IntsAt v2 vo y := ⟨copied_ints19 o2, HI.out.y.ok⟩
    have HF := Lib.hid (And.intro b1 (And.intro b2 U2))
    obtain ⟨⟨d0, d1, d2⟩, -, -, hbe, hbb, hby⟩ := KEY.out _ (U2.mod _)
    clear o1 o2 x1 x2 f1 f2 U1 U2 b1 b2 hbe hbb hby
    go_wp2_with fail
    refine (qover_any _ q room E S (H4.out.q.ext HF.out.2.2) bl pa HI.out.i2 vi vo b y HF.out.1 HF.out.2.1 (by omega) (by omega)).mono ?_
    rintro en v3 ⟨a1, a2, rfl, oa, ob, x3, -, -⟩
    have X3 : Ext w0 v3 := HF.out.2.2.trans x3
    obtain ⟨⟨e0, e1, e2⟩, -, ⟨e8, e9⟩, hbe, hbb, hby⟩ := KEY.out _ (X3.mod _)
    have HX3 := Lib.hid (And.intro X3 (And.intro oa (And.intro ob (And.intro hbb (And.intro hby x3)))))
    clear d0 d1 d2 X3 oa ob hbe hbb hby x3
    go_wp2_with fail
    refine (rover_any _ x room E T (H4.out.x.ext HX3.out.1) bl pa HI.out.i2 vb vy b y HX3.out.2.2.2.1 HX3.out.2.2.2.2.1 (by omega) (by omega)).mono ?_
    rintro en v4 ⟨c1, c2, rfl, oc, od, x4, -, -⟩
    have X4 : Ext w0 v4 := HX3.out.1.trans x4
    obtain ⟨-, -, ⟨f8, f9⟩, hbe, hbb, hby⟩ := KEY.out _ (X4.mod _)
    have HX4 := Lib.hid (And.intro X4 (And.intro oc (And.intro od (And.intro hbb (And.intro hby x4)))))
    have hok : ∀ z ∈ qoverY E bl pa b y, I64 z := qoverY_ok19 (H4.out.q) HI.out.y.ok
    have HOK := Lib.hid hok
    clear e0 e1 e2 e8 e9 X4 oc od hbe hbb hby x4 hok
    go_wp2_with fail
    refine (bytes_any _ _ _ (qoverB E bl pa b y) (qoverB E bl pa b y) (HX3.out.2.1.ext HX4.out.2.2.2.2.2).sl HX4.out.2.1.sl).mono ?_
    rintro en v5 ⟨rfl, rfl⟩
    rw [beq_self_eq_true]
    go_wp2_with fail
    refine (ints_any _ _ _ (qoverY E bl pa b y) (qoverY E bl pa b y) ⟨(HX3.out.2.2.1.ext HX4.out.2.2.2.2.2).sl, HOK.out⟩ ⟨HX4.out.2.2.1.sl, HOK.out⟩).mono ?_
    rintro en v6 ⟨rfl, n6, hn6⟩
    rw [beq_self_eq_true]
    have X6 : Ext w0 v6 := by rw [hn6]; exact HX4.out.1.drewN n6
    have X46 : Ext v2 v6 := by rw [hn6]; exact ((HX3.out.2.2.2.2.2).trans HX4.out.2.2.2.2.2).drewN n6
    obtain ⟨-, -, ⟨g8, g9⟩, hbe, hbb, hby⟩ := KEY.out _ (X6.mod _)
    have HX6 := Lib.hid (And.intro X6 (And.intro hbb (And.intro hby X46)))
    clear f8 f9 hn6 X6 X46 hbe hbb hby
    go_wp2_with fail
    refine (bytes_any _ _ _ b b (HF.out.1.ext HX6.out.2.2.2) HX6.out.2.1).mono ?_
    rintro en v7 ⟨rfl, rfl⟩
    rw [beq_self_eq_true]
    go_wp2_with fail
    refine (ints_any _ _ _ y y (HF.out.2.1.ext HX6.out.2.2.2) HX6.out.2.2.1).mono ?_
    rintro en v8 ⟨rfl, n8, hn8⟩
    rw [beq_self_eq_true]
    have X8 : Ext w0 v8 := by rw [hn8]; exact HX6.out.1.drewN n8
    have HX8 := Lib.hid X8
    clear X8 hn8 g8 g9
    go_wp2_with fail
    go_ret
    exact ⟨rfl, S, T, H4.out.ext HX8.out, Ext.mod (HW.out.2.2.trans HX8.out) _, fun k h => .inl h, fun k h => .inl h⟩
  · have HE : Hid (doesE room E ⟨2, bl, pa, e, b, y⟩ = E.tail) := Lib.hid rfl
    have HM : Hid (doesM E M ⟨2, bl, pa, e, b, y⟩ = qflushM E M) := Lib.hid rfl
    rw [HE.out, HM.out]
    obtain ⟨Z, hZ⟩ : ∃ Z, Z = (!E.isEmpty) := ⟨_, rfl⟩
    have HZ := Lib.hid hZ.symm
    clear hZ
    go_enter Try.func45, Try.ntmps45
    go_upto_region 1 with fail
    rw [← HW.out.1, ← HW.out.2.1]
    clear t1 t2 t3
    go_upto_region 10 with fail
    clear d0 d1 d2
    go_wp2_with fail
    refine (qflush_any _ q m room E S H4.out.q M U H4.out.m H4.out.su).mono ?_
    rintro en v1 ⟨rfl, S1, q1, b1, m1, s1⟩
    have A1 := H4.out.left q1 b1 m1 (P := fun k => w0.heap.size ≤ k) (fun k h => .inl (s1 k h))
    have HA := Lib.hid (And.intro A1 (And.intro m1 s1))
    clear A1 q1 b1 m1 s1
    rw [HZ.out]
    go_wp2_with fail
    refine (rflush_any _ x y' room E T HA.out.1.x M R HA.out.1.y HA.out.1.tr).mono ?_
    rintro en v2 ⟨rfl, T1, q2, b2, m2, s2⟩
    have A2 := HA.out.1.right q2 b2 m2 s2
    have HB := Lib.hid (And.intro A2 (And.intro m2 s2))
    clear A2 q2 b2 m2 s2
    rw [HZ.out]
    go_wp2_with fail
    go_ret
    obtain ⟨A2, m2, s2⟩ := HB.out
    obtain ⟨A1, m1, s1⟩ := HA.out
    exact ⟨rfl, S1, T1, A2, (HW.out.2.2.mod _).trans ((m1.weak (fun k h => .inl (h.elim .inl (fun h => .inr (.inl h))))).trans' m2 (fun k h => .inl (h.elim (fun h => .inr (.inr (.inl h))) (fun h => .inr (.inr (.inr h)))))), fun k h => .inl (s1 k h), fun k h => (s2 k h).imp id (fun h => Nat.le_trans HW.out.2.2.size (Nat.le_trans m1.size h))⟩
  · have HE : Hid (doesE room E ⟨3, bl, pa, e, b, y⟩ = qtear E) := Lib.hid rfl
    have HM : Hid (doesM E M ⟨3, bl, pa, e, b, y⟩ = qtearM E M) := Lib.hid rfl
    rw [HE.out, HM.out]
    obtain ⟨Z, hZ⟩ : ∃ Z, Z = qtears E := ⟨_, rfl⟩
    have HZ := Lib.hid hZ.symm
    clear hZ
    go_enter Try.func45, Try.ntmps45
    go_upto_region 1 with fail
    rw [← HW.out.1, ← HW.out.2.1]
    clear t1 t2 t3
    go_upto_region 12 with fail
    clear d0 d1 d2
    go_wp2_with fail
    refine (qtear_any _ q m room E S H4.out.q M U H4.out.m H4.out.su).mono ?_
    rintro en v1 ⟨rfl, S1, q1, b1, m1, s1⟩
    have A1 := H4.out.left q1 b1 m1 (P := fun k => w0.heap.size ≤ k) (fun k h => .inl (s1 k h))
    have HA := Lib.hid (And.intro A1 (And.intro m1 s1))
    clear A1 q1 b1 m1 s1
    rw [HZ.out]
    go_wp2_with fail
    refine (rtear_any _ x y' room E T HA.out.1.x M R HA.out.1.y HA.out.1.tr).mono ?_
    rintro en v2 ⟨rfl, T1, q2, b2, m2, s2⟩
    have A2 := HA.out.1.right q2 b2 m2 s2
    have HB := Lib.hid (And.intro A2 (And.intro m2 s2))
    clear A2 q2 b2 m2 s2
    rw [HZ.out]
    go_wp2_with fail
    go_ret
    obtain ⟨A2, m2, s2⟩ := HB.out
    obtain ⟨A1, m1, s1⟩ := HA.out
    exact ⟨rfl, S1, T1, A2, (HW.out.2.2.mod _).trans ((m1.weak (fun k h => .inl (h.elim .inl (fun h => .inr (.inl h))))).trans' m2 (fun k h => .inl (h.elim (fun h => .inr (.inr (.inl h))) (fun h => .inr (.inr (.inr h)))))), fun k h => .inl (s1 k h), fun k h => (s2 k h).imp id (fun h => Nat.le_trans HW.out.2.2.size (Nat.le_trans m1.size h))⟩
  · have HE : Hid (doesE room E ⟨4, bl, pa, e, b, y⟩ = []) := Lib.hid rfl
    have HM : Hid (doesM E M ⟨4, bl, pa, e, b, y⟩ = qdrainM E M) := Lib.hid rfl
    rw [HE.out, HM.out]
    go_enter Try.func45, Try.ntmps45
    go_upto_region 1 with fail
    rw [← HW.out.1, ← HW.out.2.1]
    clear t1 t2 t3
    go_upto_region 14 with fail
    clear d0 d1 d2
    go_wp2_with fail
    refine (qdrain_any _ q m room E S H4.out.q M U H4.out.m H4.out.su).mono ?_
    rintro en v1 ⟨rfl, S1, q1, b1, m1, s1⟩
    have A1 := H4.out.left q1 b1 m1 (P := fun k => w0.heap.size ≤ k) (fun k h => .inl (s1 k h))
    have HA := Lib.hid (And.intro A1 (And.intro m1 s1))
    clear A1 q1 b1 m1 s1
    go_wp2_with fail
    refine (rdrain_any _ x y' room E T HA.out.1.x M R HA.out.1.y HA.out.1.tr).mono ?_
    rintro en v2 ⟨rfl, T1, q2, b2, m2, s2⟩
    have A2 := HA.out.1.right q2 b2 m2 s2
    have HB := Lib.hid (And.intro A2 (And.intro m2 s2))
    clear A2 q2 b2 m2 s2
    go_wp2_with fail
    go_ret
    obtain ⟨A2, m2, s2⟩ := HB.out
    obtain ⟨A1, m1, s1⟩ := HA.out
    exact ⟨rfl, S1, T1, A2, (HW.out.2.2.mod _).trans ((m1.weak (fun k h => .inl (h.elim .inl (fun h => .inr (.inl h))))).trans' m2 (fun k h => .inl (h.elim (fun h => .inr (.inr (.inl h))) (fun h => .inr (.inr (.inr h)))))), fun k h => .inl (s1 k h), fun k h => (s2 k h).imp id (fun h => Nat.le_trans HW.out.2.2.size (Nat.le_trans m1.size h))⟩
  · have HE : Hid (doesE room E ⟨kd, bl, pa, e, b, y⟩ = E) := Lib.hid (by unfold doesE; simp only; rw [if_neg (by omega), if_neg (by omega), if_neg (by omega), if_neg (by omega)])
    have HM : Hid (doesM E M ⟨kd, bl, pa, e, b, y⟩ = M) := Lib.hid (by unfold doesM; simp only; rw [if_neg (by omega), if_neg (by omega), if_neg (by omega)])
    rw [HE.out, HM.out]
    have a0 : (kd == 0) = false := by simp; omega
    have a1 : (kd == 1) = false := by simp; omega
    have a2 : (kd == 2) = false := by simp; omega
    have a3 : (kd == 3) = false := by simp; omega
    have a4 : (kd == 4) = false := by simp; omega
    clear hk
    go_enter Try.func45, Try.ntmps45
    go_upto_region 1 with fail
    rw [← HW.out.1, ← HW.out.2.1]
    clear t1 t2 t3
    go_wp2_with fail
    go_ret
    exact ⟨rfl, S, T, H4.out, HW.out.2.2.mod _, fun k h => .inl h, fun k h => .inl h⟩
end Go.Proofs.Ytnnciakdeoopaaa
