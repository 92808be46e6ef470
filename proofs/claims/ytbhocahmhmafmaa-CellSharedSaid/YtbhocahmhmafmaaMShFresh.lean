/-
  A shared memory of the call's own, and the calls on it. No condition.
-/
import Derived.Test.YtbhocahmhmafmaaMShAct
import Derived.Test.YtbhocahmhmafmaaMShFinal
import Derived.Test.YtbhocahmhmafmaaMShLog
namespace Go.Proofs.Ytbhocahmhmafmaa
open Go.Ren Go.RowKit
set_option linter.unusedVariables false
/-- Where a call has left it. -/
def FrTo (w0 : World) (g : Nat) (r : Ending) (s' : Shm) (e : Ending) (w' : World) : Prop := e = r ∧ FreshSh w0 w' g s'
theorem FreshSh.ok {w0 w : World} {g : Nat} {s : Shm} (h : FreshSh w0 w g s) : ShOk s := by obtain ⟨⟨z, _, h1, _⟩, _⟩ := h; exact h1.ok
theorem FreshSh.ext {w0 w w' : World} {g : Nat} {s : Shm} (h : FreshSh w0 w g s) (x : Ext w w') : FreshSh w0 w' g s := by
  obtain ⟨⟨z, e, h1, f⟩, y⟩ := h
  exact ⟨⟨z, e, h1.ext x, f⟩, y.trans x⟩
section
variable {w0 w : World} {g : Nat} {s : Shm} (h : FreshSh w0 w g s)
include h
theorem fr_load (ag k pa size : Int) (seq nt : Bool) : Calls Try.prog 11 #[ptr g, .int .i64 ag, .int .i64 k, .int .i64 pa, .int .i64 size, .bool seq, .bool nt] w (FrTo w0 g (.returned (.tuple #[.int .u64 ((shLoad s ag k pa size seq nt).1.1 : Int), .int .i64 (shLoad s ag k pa size seq nt).1.2])) (shLoad s ag k pa size seq nt).2) := by
  obtain ⟨⟨z, rfl, h1, f⟩, x⟩ := h
  exact (shload_any w z s h1 ag k pa size seq nt).mono fun e w' hh => ⟨hh.1, FreshSh.to rfl f x hh.2⟩
theorem fr_store (ag k pa size : Int) (m : Nat) (hm : m < 18446744073709551616) (seq nt : Bool) : Calls Try.prog 10 #[ptr g, .int .i64 ag, .int .i64 k, .int .i64 pa, .int .i64 size, .int .u64 (m : Int), .bool seq, .bool nt] w (FrTo w0 g (.returned (.int .i64 (shStore s ag k pa size m seq nt).1)) (shStore s ag k pa size m seq nt).2) := by
  obtain ⟨⟨z, rfl, h1, f⟩, x⟩ := h
  exact (shstore_any w z s h1 ag k pa size m hm seq nt).mono fun e w' hh => ⟨hh.1, FreshSh.to rfl f x hh.2⟩
theorem fr_sync (ag : Int) (v : Value) (fr : List Int) (hv : IntsAt w v fr) (far : fr.length * 8 ≤ 140737488355328) : Calls Try.prog 22 #[ptr g, .int .i64 ag, v] w (FrTo w0 g (.returned (.tuple #[.int .i64 ((shSync s ag fr).1.1 : Int), .int .i64 (shSync s ag fr).1.2])) (shSync s ag fr).2) := by
  obtain ⟨⟨z, rfl, h1, f⟩, x⟩ := h
  exact (shsync_any w z s h1 ag v fr hv far).mono fun e w' hh => ⟨hh.1, FreshSh.to rfl f x hh.2⟩
theorem fr_flush (ag : Int) : Calls Try.prog 13 #[ptr g, .int .i64 ag] w (FrTo w0 g (.returned (.bool (shFl s ag).1)) (shFl s ag).2) := by
  obtain ⟨⟨z, rfl, h1, f⟩, x⟩ := h
  exact (shflush_any w z s h1 ag).mono fun e w' hh => ⟨hh.1, FreshSh.to rfl f x hh.2⟩
theorem fr_tear (ag : Int) : Calls Try.prog 12 #[ptr g, .int .i64 ag] w (FrTo w0 g (.returned (.bool (shTr s ag).1)) (shTr s ag).2) := by
  obtain ⟨⟨z, rfl, h1, f⟩, x⟩ := h
  exact (shtear_any w z s h1 ag).mono fun e w' hh => ⟨hh.1, FreshSh.to rfl f x hh.2⟩
theorem fr_make (size : Int) : Calls Try.prog 19 #[ptr g, .int .i64 size] w (FrTo w0 g (.returned (.tuple #[.int .i64 ((shMake s size).1.1 : Int), .int .i64 (shMake s size).1.2])) (shMake s size).2) := by
  obtain ⟨⟨z, rfl, h1, f⟩, x⟩ := h
  exact (shmake_any w z s h1 size).mono fun e w' hh => ⟨hh.1, FreshSh.to rfl f x hh.2⟩
theorem fr_pend (ag : Int) : Calls Try.prog 17 #[ptr g, .int .i64 ag] w (fun e w' => e = .returned (.int .i64 (shPend s ag : Int)) ∧ w = w') := by
  obtain ⟨⟨z, rfl, h1, f⟩, x⟩ := h
  exact shpend_any w z s h1 ag
theorem fr_act (o : Op20) (v : Value) (ho : Op20In w o v) : Calls Try.prog 21 #[ptr g, o20V o v] w (FrTo w0 g (.returned (.tuple #[.int .u64 ((shAct s o).1.1 : Int), .int .i64 (shAct s o).1.2])) (shAct s o).2) := by
  obtain ⟨⟨z, rfl, h1, f⟩, x⟩ := h
  exact (act_any w z s h1 o v ho).mono fun e w' hh => ⟨hh.1, FreshSh.to rfl f x hh.2⟩
theorem fr_log : Calls Try.prog 20 #[ptr g] w (LogPost s.L w) := by
  obtain ⟨⟨z, rfl, h1, f⟩, x⟩ := h
  exact shlog_any w z s h1
theorem fr_bytes : Calls Try.prog 15 #[ptr g] w (BytesPost s.M w) := by
  obtain ⟨⟨z, rfl, h1, f⟩, x⟩ := h
  exact shbytes_any w z s h1
theorem fr_final : Calls Try.prog 14 #[ptr g] w (BytesPost (shFin s s.n).M w) := by
  obtain ⟨⟨z, rfl, h1, f⟩, x⟩ := h
  exact shfinal_any w z s h1
end
/-- What New answers. -/
theorem fr_new (w : World) (n r : Int) : Calls Try.prog 18 #[.int .i64 n, .int .i64 r] w (fun e w' =>
    ((1 ≤ n ∧ n ≤ 64 ∧ 0 ≤ r ∧ r ≤ 64) → ∃ g, e = .returned (.tuple #[ptr g, .int .i64 0]) ∧ FreshSh w w' g (shNew n.toNat r.toNat)) ∧
    (¬ (1 ≤ n ∧ n ≤ 64 ∧ 0 ≤ r ∧ r ≤ 64) → e = .returned (.tuple #[.pointer none, .int .i64 1]) ∧ w = w')) := by
  refine (shnew_any w n r).mono fun e w' hh => ⟨fun hc => ?_, hh.2⟩
  obtain ⟨z, e1, h1, x, f⟩ := hh.1 hc
  exact ⟨z.g, e1, ⟨z, rfl, h1, f⟩, x⟩
theorem log_in {w : World} {hv pv : Value} {V : Nat → Vs} {s : Shm} (h : LogOwn w hv pv V s.L) (ok : ShOk s) : LogIn w hv pv V s.L :=
  h.in_ ok.evI (fun i hi => by
    have h1 := ok.prk _ (List.getElem_mem hi)
    have h2 := ok.ev
    rw [prn_eq hi]
    unfold prOk at h1
    rw [decide_eq_true_eq] at h1
    unfold I64
    omega)
end Go.Proofs.Ytbhocahmhmafmaa
