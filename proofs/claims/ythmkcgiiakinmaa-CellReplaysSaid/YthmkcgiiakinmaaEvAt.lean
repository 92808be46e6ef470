/-
  Events and logs in memory; the contracts of the small functions of package event. No condition.
-/
import Derived.Test.YthmkcgiiakinmaaBaseA
import Derived.Test.YthmkcgiiakinmaaEvLaw
import Derived.Test.YthmkcgiiakinmaaShape
namespace Go.Proofs.Ythmkcgiiakinmaa
open Go.Ren Go.RowKit
set_option linter.unusedVariables false

theorem IEv : EInfo Try.prog 22 45 10 120 (.agg #[.int .i64 0, .int .i64 0, .bool false, .bool false, .int .i64 0, .int .i64 0, .int .i64 0, .slice none 0 0, .slice none 0 0, .slice none 0 0]) := ⟨Try.underlying22, by kernel_rfl, rfl, by decide⟩
theorem IP : EInfo Try.prog 23 48 2 16 (.agg #[.int .i64 0, .int .i64 0]) := ⟨Try.underlying23, by kernel_rfl, rfl, by decide⟩

/-- The three lists of an event. -/
structure Vs where
  r : Value
  w : Value
  f : Value
structure EvAt (w : World) (e : Ev) (v : Vs) : Prop where
  rd : BytesAt w v.r e.rd
  wr : BytesAt w v.w e.wr
  fr : IntsAt w v.f e.fr
  ok : EvI e
theorem EvAt.ext {w w' : World} {e : Ev} {v : Vs} (h : EvAt w e v) (x : Ext w w') : EvAt w' e v := ⟨h.rd.ext x, h.wr.ext x, h.fr.ext x, h.ok⟩
abbrev evV (e : Ev) (v : Vs) : Value := .agg #[.int .i64 e.ag, .int .i64 e.kind, .bool e.seq, .bool e.nt, .int .i64 e.blk, .int .i64 e.at_, .int .i64 e.size, v.r, v.w, v.f]

theorem ev_facts {w : World} {e : Ev} {v : Vs} (h : EvAt w e v) : v.r.cells = #[v.r] ∧ v.w.cells = #[v.w] ∧ v.f.cells = #[v.f] ∧
    (∀ (a : Addr) (m : Mode) (w' : World), (store a v.r m).run Try.prog w' = stored Try.prog w' a v.r m) ∧ (∀ (a : Addr) (m : Mode) (w' : World), (store a v.w m).run Try.prog w' = stored Try.prog w' a v.w m) ∧ (∀ (a : Addr) (m : Mode) (w' : World), (store a v.f m).run Try.prog w' = stored Try.prog w' a v.f m) :=
  ⟨Sl.cells_eq h.rd, Sl.cells_eq h.wr, Sl.cells_eq h.fr.sl, Sl.run_st h.rd, Sl.run_st h.wr, Sl.run_st h.fr.sl⟩

theorem reads_any (w : World) (e : Ev) (v : Vs) (h : EvAt w e v) :
    Calls Try.prog 76 #[evV e v] w fun r w' => r = .returned (.bool (rdsB e)) ∧ Ext w w' := by
  obtain ⟨k1, k2, k3, t1, t2, t3⟩ := ev_facts h
  clear h
  unfold evV
  go_enter Try.func76, Try.ntmps76
  go_wp2
  all_goals
    go_ret
    exact ⟨ret_bool (by clear k1 k2 k3 t1 t2 t3; rw [Bool.eq_iff_iff]; simp_all [rdsB]), (Mod.refl _ _).alloc _⟩
theorem writes_any (w : World) (e : Ev) (v : Vs) (h : EvAt w e v) :
    Calls Try.prog 31 #[evV e v] w fun r w' => r = .returned (.bool (wrsB e)) ∧ Ext w w' := by
  obtain ⟨k1, k2, k3, t1, t2, t3⟩ := ev_facts h
  clear h
  unfold evV
  go_enter Try.func31, Try.ntmps31
  go_wp2
  all_goals
    go_ret
    exact ⟨ret_bool (by clear k1 k2 k3 t1 t2 t3; rw [Bool.eq_iff_iff]; simp_all [wrsB]), (Mod.refl _ _).alloc _⟩
theorem equal_any (w : World) (a b : Ev) (v u : Vs) (ha : EvAt w a v) (hb : EvAt w b u) :
    Calls Try.prog 30 #[evV a v, evV b u] w fun r w' => r = .returned (.bool (evEq a b)) ∧ Ext w w' := by
  obtain ⟨k1, k2, k3, t1, t2, t3⟩ := ev_facts ha
  obtain ⟨k4, k5, k6, t4, t5, t6⟩ := ev_facts hb
  clear ha hb
  unfold evV
  go_enter Try.func30, Try.ntmps30
  go_wp2
  all_goals
    go_ret
    exact ⟨ret_bool (by clear k1 k2 k3 t1 t2 t3 k4 k5 k6 t4 t5 t6; rw [Bool.eq_iff_iff]; simp_all [evEq]), ((Mod.refl _ _).alloc _).alloc _⟩
theorem u64_sub {p a : Int} (h1 : I64 p) (h2 : I64 a) (h : a ≤ p) : IntKind.u64.wrap (IntKind.u64.wrap p - IntKind.u64.wrap a) = p - a := by
  rw [IntKind.wrap_u64, IntKind.wrap_u64, IntKind.wrap_u64]
  unfold I64 at h1 h2
  omega
theorem within_any (w : World) (a f s : Int) (ha : I64 a) (hf : I64 f) (hs : I64 s) :
    Calls Try.prog 99 #[.int .i64 a, .int .i64 f, .int .i64 s] w fun r w' => r = .returned (.bool (withB a f s)) ∧ w = w' := by
  by_cases h : f ≤ a
  · have hsub := u64_sub ha hf h
    by_cases h0 : 0 ≤ s
    · have hm : IntKind.u64.wrap s = s := IntWalk.u64_in _ (by unfold I64 at hs; omega)
      clear ha hf hs
      go_enter Try.func99, Try.ntmps99
      go_wp2
      go_ret
      exact ⟨ret_bool (by rw [Bool.eq_iff_iff]; simp [withB, h]), rfl⟩
    · have hm : IntKind.u64.wrap 0 = 0 := by decide
      clear ha hf hs
      go_enter Try.func99, Try.ntmps99
      go_wp2
      go_ret
      exact ⟨ret_bool (by rw [Bool.eq_iff_iff]; simp [withB, h]; omega), rfl⟩
  · go_enter Try.func99, Try.ntmps99
    go_wp2
    go_ret
    exact ⟨ret_bool (by simp [withB]; omega), rfl⟩

theorem covers_any (w : World) (e : Ev) (v : Vs) (h : EvAt w e v) (b a : Int) (ha : I64 a) :
    Calls Try.prog 94 #[evV e v, .int .i64 b, .int .i64 a] w fun r w' => r = .returned (.bool (evCov e b a)) ∧ Ext w w' := by
  obtain ⟨k1, k2, k3, t1, t2, t3⟩ := ev_facts h
  have hok := h.ok
  clear h
  unfold evV
  go_enter Try.func94, Try.ntmps94
  go_wp2_with (go_at_call 99; refine (within_any _ _ _ _ ha hok.at_ hok.size).mono ?_; rintro r w' ⟨rfl, rfl⟩)
  all_goals
    go_ret
    exact ⟨ret_bool (by clear k1 k2 k3 t1 t2 t3; rw [Bool.eq_iff_iff]; simp_all [evCov]), (Mod.refl _ _).alloc _⟩
theorem overlap_any (w : World) (a b : Ev) (v u : Vs) (ha : EvAt w a v) (hb : EvAt w b u) :
    Calls Try.prog 72 #[evV a v, evV b u] w fun r w' => r = .returned (.bool (evOver a b)) ∧ Ext w w' := by
  obtain ⟨k1, k2, k3, t1, t2, t3⟩ := ev_facts ha
  obtain ⟨k4, k5, k6, t4, t5, t6⟩ := ev_facts hb
  have oa := ha.ok
  have ob := hb.ok
  clear ha hb
  unfold evV
  go_enter Try.func72, Try.ntmps72
  go_wp2_with (go_at_call 99; refine (within_any _ _ _ _ (by first | exact oa.at_ | exact ob.at_) (by first | exact oa.at_ | exact ob.at_) (by first | exact oa.size | exact ob.size)).mono ?_; rintro r w' ⟨rfl, rfl⟩)
  all_goals
    go_ret
    exact ⟨ret_bool (by clear k1 k2 k3 t1 t2 t3 k4 k5 k6 t4 t5 t6; rw [Bool.eq_iff_iff]; simp_all [evOver]; try omega), ((Mod.refl _ _).alloc _).alloc _⟩
end Go.Proofs.Ythmkcgiiakinmaa
