/-
  The contracts of (*fifo.Queue).Drain, Copy, Room, Len. No condition.
-/
import Derived.Test.YtnnciakdeoopaaaFifoFlush
import Derived.Test.YtnnciakdeoopaaaFifoList
import Derived.Deep.LoopGhost
namespace Go.Proofs.Ytnnciakdeoopaaa
open Go.Ren Go.RowKit
set_option linter.unusedVariables false

def DrainRel (p q : Value) (room : Nat) (E : List Ent) (m : List Blk) (S T : Nat → Prop) (w : World) (k : Nat) (wr : World) : Prop :=
  ∃ E' m' S', E'.length = k ∧ QueueAt wr p room E' S' ∧ BlocksAt wr q m' T ∧ qdrainM E' m' = qdrainM E m ∧ Mod (fun k => S k ∨ T k) w wr ∧ ∀ k, S' k → S k

set_option maxRecDepth 100000 in
theorem qdrain_any (w : World) (p q : Value) (room : Nat) (E : List Ent) (S : Nat → Prop) (h : QueueAt w p room E S) (m : List Blk) (T : Nat → Prop) (hm : BlocksAt w q m T) (hd : ∀ k, S k → ¬ T k) :
    Calls Try.prog 42 #[p, q] w fun r w' => r = .returned (.tuple #[]) ∧ ∃ S', QueueAt w' p room [] S' ∧ BlocksAt w' q (qdrainM E m) T ∧ Mod (fun k => S k ∨ T k) w w' ∧ ∀ k, S' k → S k := by
  have R0 : DrainRel p q room E m S T w E.length w := ⟨E, m, S, rfl, h, hm, rfl, Mod.refl _ _, fun _ h => h⟩
  have HD := Lib.hid hd
  clear h hm hd
  go_enter Try.func42, Try.ntmps42
  go_wp2_with fail
  go_loopg [] E.length (fun k wr => DrainRel p q room E m S T w k wr)
  case atStart => exact R0
  case round =>
    clear R0
    obtain ⟨E', m', S', hk, hq, hb, he, hM, hS⟩ := hrel
    cases E' with
    | nil =>
      have H := Lib.hid (And.intro he (And.intro hb (And.intro hM (And.intro hS hq))))
      clear he hk hb hM hS
      go_wp2_with fail
      refine (qflush_nil _ _ _ _ _ hq).mono ?_
      rintro r w1 ⟨rfl, rfl⟩
      clear hq
      go_wp2_with fail
      go_end0
      obtain ⟨he, hb, hM, hS, hq⟩ := H.out
      refine ⟨rfl, S', hq, ?_, hM, hS⟩
      rw [← he]; exact hb
    | cons e E' =>
      have H := Lib.hid (And.intro he (And.intro hk (And.intro hM hS)))
      clear he hk hM hS
      go_wp2_with fail
      refine (qflush_cons _ _ _ _ _ _ _ hq _ _ hb (fun k hk => HD.out k (H.out.2.2.2 k hk))).mono ?_
      rintro r w1 ⟨rfl, S1, Q1, B1, M1, s1⟩
      have H1 := Lib.hid (And.intro Q1 (And.intro B1 (And.intro M1 s1)))
      clear Q1 B1 M1 s1 hq hb
      go_wp2_with fail
      go_roundg E'.length
      case rel =>
        obtain ⟨he, hk, hM, hS⟩ := H.out
        obtain ⟨Q1, B1, M1, s1⟩ := H1.out
        refine ⟨E', _, S1, rfl, Q1, B1, ?_, hM.trans' M1 (fun i hi => .inl (hi.elim (fun h => .inl (hS i h)) .inr)), fun k h => hS k (s1 k h)⟩
        rw [← qdrainM_cons]; exact he
      case measure =>
        have := H.out.2.1
        simp at this; omega

theorem qroom_any (w : World) (p : Value) (room : Nat) (E : List Ent) (S : Nat → Prop) (h : QueueAt w p room E S) :
    Calls Try.prog 70 #[p] w fun r w' => r = .returned (.int .i64 (room : Int)) ∧ w = w' := by
  obtain ⟨pq, lv, V, rfl, hin, hS⟩ := h.ex
  have c0 := hin.c0
  clear hin hS h
  go_enter Try.func70, Try.ntmps70
  go_wp2
  go_ret
  exact ⟨rfl, rfl⟩
end Go.Proofs.Ytnnciakdeoopaaa
