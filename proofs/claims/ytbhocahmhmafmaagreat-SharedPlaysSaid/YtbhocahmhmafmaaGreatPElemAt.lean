/-
  The contracts of elem's functions over words. No condition. What the shared memory's calls compute, on plain lists. No condition, no program. What every shared memory meets, and that the calls keep it. No condition, no program. The blocks byte by byte: what a write, a drain, a read do. No condition, no program. What an agent sees: the blocks as if its buffer were drained. No condition, no program. What the shared memory's calls refuse, and what they log. No condition, no program. What drains, and what every agent's Sync leaves. No condition, no program. An agent that is alone reads back what it stored. No condition, no program.
-/
import Derived.Test.YtbhocahmhmafmaaGreatPBaseA
import Derived.Test.YtbhocahmhmafmaaGreatPBlkLaw
namespace Go.Ren
set_option linter.unusedVariables false
def szK (k : Int) : Nat := if k = 1 ∨ k = 2 then 1 else if k = 3 ∨ k = 4 then 2 else if k = 5 ∨ k = 6 then 4 else if k = 7 ∨ k = 8 then 8 else 0
theorem szK_five (k : Int) : szK k = 0 ∨ szK k = 1 ∨ szK k = 2 ∨ szK k = 4 ∨ szK k = 8 := by unfold szK; split <;> (try split) <;> (try split) <;> (try split) <;> simp
theorem szK_le (k : Int) : szK k ≤ 8 := by have := szK_five k; omega
theorem szK_zero (k : Int) : szK k = 0 ↔ (k < 1 ∨ 8 < k) := by unfold szK; split <;> (try split) <;> (try split) <;> (try split) <;> simp <;> omega
def cutK (k : Int) (m : Nat) : Nat := m % 2 ^ (8 * szK k)
theorem bits_and64 {m k : Nat} (hm : m < 18446744073709551616) (hk : k < 18446744073709551616) : bits .and .u64 (m : Int) (k : Int) = ((m &&& k : Nat) : Int) := by
 simp [bits]
 rw [bits64, show (2 : Nat) ^ 64 = 18446744073709551616 from rfl, Nat.mod_eq_of_lt hm, Nat.mod_eq_of_lt hk]
 exact u64_wrap_nat (Nat.lt_of_le_of_lt Nat.and_le_left hm)
theorem bits_xor64 {m k : Nat} (hm : m < 18446744073709551616) (hk : k < 18446744073709551616) : bits .xor .u64 (m : Int) (k : Int) = ((m ^^^ k : Nat) : Int) := by
 simp [bits]
 rw [bits64, show (2 : Nat) ^ 64 = 18446744073709551616 from rfl, Nat.mod_eq_of_lt hm, Nat.mod_eq_of_lt hk]
 exact u64_wrap_nat (Nat.xor_lt_two_pow (n := 64) hm hk)
theorem bits_cut {m : Nat} (hm : m < 18446744073709551616) (n : Nat) (hn : n < 64) : bits .and .u64 (m : Int) ((2 ^ n - 1 : Nat) : Int) = ((m % 2 ^ n : Nat) : Int) := by
 have hp := pow_lt64 hn
 rw [bits_and64 hm (by omega), Nat.and_two_pow_sub_one_eq_mod]
def changeK (k o : Int) (a b : Nat) : Nat × Bool :=
 if szK k = 0 then (0, false)
 else if o = 1 then (cutK k ((a + b) % 18446744073709551616), true)
 else if o = 2 then (cutK k (a &&& b), true)
 else if o = 3 then (cutK k (a ||| b), true)
 else if o = 4 then (cutK k ((a + (18446744073709551616 - b)) % 18446744073709551616), true)
 else if o = 5 then (cutK k (a ^^^ b), true)
 else if o = 6 then (cutK k b, true)
 else (0, false)
def bytesN (n m : Nat) : List UInt8 := (List.range n).map fun i => UInt8.ofNat (m >>> (8 * i))
theorem bytesN_succ (n m : Nat) : bytesN (n + 1) m = bytesN n m ++ [UInt8.ofNat (m >>> (8 * n))] := by simp [bytesN, List.range_succ]
theorem bytesN_len (n m : Nat) : (bytesN n m).length = n := by simp [bytesN]
def wordP (l : List UInt8) : Nat → Nat
 | 0 => 0
 | k + 1 => wordP l k ||| (((l[k]?).getD 0).toNat <<< (8 * k))
theorem wordP_lt (l : List UInt8) : ∀ k, k ≤ 8 → wordP l k < 2 ^ (8 * k)
 | 0, _ => by simp [wordP]
 | k + 1, h => by
  have ih := wordP_lt l k (by omega)
  unfold wordP
  refine Nat.or_lt_two_pow (Nat.lt_of_lt_of_le ih (Nat.pow_le_pow_right (by decide) (by omega))) ?_
  have hx : ((l[k]?).getD 0).toNat < 2 ^ 8 := UInt8.toNat_lt _
  rw [Nat.shiftLeft_eq, Nat.mul_add, Nat.mul_one, Nat.add_comm, Nat.pow_add]
  exact Nat.mul_lt_mul_of_pos_right hx (Nat.two_pow_pos _)
def wordK (k : Int) (l : List UInt8) : Nat × Bool := if szK k = 0 ∨ l.length ≠ szK k then (0, false) else (wordP l l.length, true)
end Go.Ren
namespace Go.Proofs.YtbhocahmhmafmaaGreat
open Go.Ren Go.RowKit
set_option linter.unusedVariables false
set_option maxRecDepth 100000 in
theorem esize_any (w : World) (k : Int) : Calls Tryz.prog 94 #[.int .i64 k] w fun e w' => e = .returned (.int .i64 (szK k : Int)) ∧ w' = w := by
 by_cases hk : 1 ≤ k ∧ k ≤ 8
 · rcases (by omega : k = 1 ∨ k = 2 ∨ k = 3 ∨ k = 4 ∨ k = 5 ∨ k = 6 ∨ k = 7 ∨ k = 8) with rfl | rfl | rfl | rfl | rfl | rfl | rfl | rfl
   all_goals
    go_enter Tryz.func94, Tryz.ntmps94
    go_wp2
    go_ret
    exact ⟨rfl, rfl⟩
 · have h0 : Hid (szK k = 0) := Lib.hid ((szK_zero k).2 (by omega))
   have a1 : (k == 1) = false := by simp; omega
   have a2 : (k == 2) = false := by simp; omega
   have a3 : (k == 3) = false := by simp; omega
   have a4 : (k == 4) = false := by simp; omega
   have a5 : (k == 5) = false := by simp; omega
   have a6 : (k == 6) = false := by simp; omega
   have a7 : (k == 7) = false := by simp; omega
   have a8 : (k == 8) = false := by simp; omega
   clear hk
   go_enter Tryz.func94, Tryz.ntmps94
   go_wp2
   go_ret
   rw [h0.out]
   exact ⟨rfl, rfl⟩
set_option maxRecDepth 100000 in
theorem cut_any (w : World) (k : Int) (m : Nat) (hm : m < 18446744073709551616) : Calls Tryz.prog 148 #[.int .i64 k, .int .u64 (m : Int)] w fun e w' => e = .returned (.int .u64 (cutK k m : Int)) ∧ w' = w := by
 have HM := Lib.hid hm
 obtain ⟨s, hs⟩ : ∃ s, s = szK k := ⟨_, rfl⟩
 have HC : Hid (cutK k m = m % 2 ^ (8 * s)) := Lib.hid (by rw [hs]; rfl)
 have HS := Lib.hid hs
 have h5 := szK_five k
 rw [← hs] at h5
 clear hs hm
 rcases h5 with rfl | rfl | rfl | rfl | rfl
 case inr.inr.inr.inr =>
  go_enter Tryz.func148, Tryz.ntmps148
  go_wp2_with fail
  refine (esize_any _ k).mono ?_
  rintro e w1 ⟨rfl, rfl⟩
  rw [← HS.out]
  go_wp2_with fail
  go_ret
  rw [HC.out, Nat.mod_eq_of_lt HM.out]
  exact ⟨rfl, rfl⟩
 all_goals
  go_enter Tryz.func148, Tryz.ntmps148
  go_wp2_with fail
  refine (esize_any _ k).mono ?_
  rintro e w1 ⟨rfl, rfl⟩
  rw [← HS.out]
  go_wp2_with fail
  go_ret
  rw [HC.out]
  first
   | exact ⟨congrArg (fun z => Ending.returned (.int .u64 z)) (bits_cut HM.out 0 (by decide)), rfl⟩
   | exact ⟨congrArg (fun z => Ending.returned (.int .u64 z)) (bits_cut HM.out 8 (by decide)), rfl⟩
   | exact ⟨congrArg (fun z => Ending.returned (.int .u64 z)) (bits_cut HM.out 16 (by decide)), rfl⟩
   | exact ⟨congrArg (fun z => Ending.returned (.int .u64 z)) (bits_cut HM.out 32 (by decide)), rfl⟩
def ChangePost (r : Nat × Bool) (w : World) (e : Ending) (w' : World) : Prop := e = .returned (.tuple #[.int .u64 (r.1 : Int), .bool r.2]) ∧ w' = w
theorem wrap_sub {a b : Nat} (ha : a < 18446744073709551616) (hb : b < 18446744073709551616) : IntKind.u64.wrap ((a : Int) - (b : Int)) = (((a + (18446744073709551616 - b)) % 18446744073709551616 : Nat) : Int) := by rw [IntKind.wrap_u64]; omega
theorem wrap_add {a b : Nat} (ha : a < 18446744073709551616) (hb : b < 18446744073709551616) : IntKind.u64.wrap ((a : Int) + (b : Int)) = (((a + b) % 18446744073709551616 : Nat) : Int) := by rw [IntKind.wrap_u64]; omega
set_option maxRecDepth 100000 in
theorem change_any (w : World) (k o : Int) (a b : Nat) (ha : a < 18446744073709551616) (hb : b < 18446744073709551616) : Calls Tryz.prog 98 #[.int .i64 k, .int .i64 o, .int .u64 (a : Int), .int .u64 (b : Int)] w (ChangePost (changeK k o a b) w) := by
 have HA := Lib.hid ha
 have HB := Lib.hid hb
 clear ha hb
 by_cases hz : szK k = 0
 · have HC : Hid (changeK k o a b = (0, false)) := Lib.hid (by unfold changeK; rw [if_pos hz])
   have HZ := Lib.hid hz
   clear hz
   go_enter Tryz.func98, Tryz.ntmps98
   go_wp2_with fail
   refine (esize_any _ k).mono ?_
   rintro e w1 ⟨rfl, rfl⟩
   rw [HZ.out]
   go_wp2_with fail
   refine bodyPost_ret (results_tmp2 rfl _ _ _) rfl ?_
   rw [HC.out]
   exact ⟨rfl, rfl⟩
 · have hz' : (((szK k : Nat) : Int) == 0) = false := by simpa using hz
   by_cases ho : 1 ≤ o ∧ o ≤ 6
   · rcases (by omega : o = 1 ∨ o = 2 ∨ o = 3 ∨ o = 4 ∨ o = 5 ∨ o = 6) with rfl | rfl | rfl | rfl | rfl | rfl
     case inl =>
      have HC : Hid (changeK k 1 a b = (cutK k ((a + b) % 18446744073709551616), true)) := Lib.hid (by unfold changeK; rw [if_neg hz]; rfl)
      have wr := wrap_add HA.out HB.out
      clear hz ho
      go_enter Tryz.func98, Tryz.ntmps98
      go_wp2_with fail
      refine (esize_any _ k).mono ?_
      rintro e w1 ⟨rfl, rfl⟩
      go_wp2_with fail
      refine (cut_any _ k _ (Nat.mod_lt _ (by decide))).mono ?_
      rintro e w1 ⟨rfl, rfl⟩
      go_wp2_with fail
      refine bodyPost_ret (results_tmp2 rfl _ _ _) rfl ?_
      rw [HC.out]
      exact ⟨rfl, rfl⟩
     case inr.inl =>
      have HC : Hid (changeK k 2 a b = (cutK k (a &&& b), true)) := Lib.hid (by unfold changeK; rw [if_neg hz]; rfl)
      have wr := bits_and64 HA.out HB.out
      clear hz ho
      go_enter Tryz.func98, Tryz.ntmps98
      go_wp2_with fail
      refine (esize_any _ k).mono ?_
      rintro e w1 ⟨rfl, rfl⟩
      go_wp2_with fail
      refine (cut_any _ k _ (Nat.lt_of_le_of_lt Nat.and_le_left HA.out)).mono ?_
      rintro e w1 ⟨rfl, rfl⟩
      go_wp2_with fail
      refine bodyPost_ret (results_tmp2 rfl _ _ _) rfl ?_
      rw [HC.out]
      exact ⟨rfl, rfl⟩
     case inr.inr.inl =>
      have HC : Hid (changeK k 3 a b = (cutK k (a ||| b), true)) := Lib.hid (by unfold changeK; rw [if_neg hz]; rfl)
      have wr := bits_or64 HA.out HB.out
      clear hz ho
      go_enter Tryz.func98, Tryz.ntmps98
      go_wp2_with fail
      refine (esize_any _ k).mono ?_
      rintro e w1 ⟨rfl, rfl⟩
      go_wp2_with fail
      refine (cut_any _ k _ (or_lt64 HA.out HB.out)).mono ?_
      rintro e w1 ⟨rfl, rfl⟩
      go_wp2_with fail
      refine bodyPost_ret (results_tmp2 rfl _ _ _) rfl ?_
      rw [HC.out]
      exact ⟨rfl, rfl⟩
     case inr.inr.inr.inl =>
      have HC : Hid (changeK k 4 a b = (cutK k ((a + (18446744073709551616 - b)) % 18446744073709551616), true)) := Lib.hid (by unfold changeK; rw [if_neg hz]; rfl)
      have wr := wrap_sub HA.out HB.out
      clear hz ho
      go_enter Tryz.func98, Tryz.ntmps98
      go_wp2_with fail
      refine (esize_any _ k).mono ?_
      rintro e w1 ⟨rfl, rfl⟩
      go_wp2_with fail
      refine (cut_any _ k _ (Nat.mod_lt _ (by decide))).mono ?_
      rintro e w1 ⟨rfl, rfl⟩
      go_wp2_with fail
      refine bodyPost_ret (results_tmp2 rfl _ _ _) rfl ?_
      rw [HC.out]
      exact ⟨rfl, rfl⟩
     case inr.inr.inr.inr.inl =>
      have HC : Hid (changeK k 5 a b = (cutK k (a ^^^ b), true)) := Lib.hid (by unfold changeK; rw [if_neg hz]; rfl)
      have wr := bits_xor64 HA.out HB.out
      clear hz ho
      go_enter Tryz.func98, Tryz.ntmps98
      go_wp2_with fail
      refine (esize_any _ k).mono ?_
      rintro e w1 ⟨rfl, rfl⟩
      go_wp2_with fail
      refine (cut_any _ k _ (Nat.xor_lt_two_pow (n := 64) HA.out HB.out)).mono ?_
      rintro e w1 ⟨rfl, rfl⟩
      go_wp2_with fail
      refine bodyPost_ret (results_tmp2 rfl _ _ _) rfl ?_
      rw [HC.out]
      exact ⟨rfl, rfl⟩
     case inr.inr.inr.inr.inr =>
      have HC : Hid (changeK k 6 a b = (cutK k b, true)) := Lib.hid (by unfold changeK; rw [if_neg hz]; rfl)
      clear hz ho
      go_enter Tryz.func98, Tryz.ntmps98
      go_wp2_with fail
      refine (esize_any _ k).mono ?_
      rintro e w1 ⟨rfl, rfl⟩
      go_wp2_with fail
      refine (cut_any _ k _ HB.out).mono ?_
      rintro e w1 ⟨rfl, rfl⟩
      go_wp2_with fail
      refine bodyPost_ret (results_tmp2 rfl _ _ _) rfl ?_
      rw [HC.out]
      exact ⟨rfl, rfl⟩
   · have HC : Hid (changeK k o a b = (0, false)) := Lib.hid (by
      unfold changeK
      rw [if_neg hz, if_neg (by omega), if_neg (by omega), if_neg (by omega), if_neg (by omega), if_neg (by omega), if_neg (by omega)])
     have a1 : (o == 1) = false := by simp; omega
     have a2 : (o == 2) = false := by simp; omega
     have a3 : (o == 3) = false := by simp; omega
     have a4 : (o == 4) = false := by simp; omega
     have a5 : (o == 5) = false := by simp; omega
     have a6 : (o == 6) = false := by simp; omega
     clear hz ho
     go_enter Tryz.func98, Tryz.ntmps98
     go_wp2_with fail
     refine (esize_any _ k).mono ?_
     rintro e w1 ⟨rfl, rfl⟩
     go_wp2_with fail
     refine bodyPost_ret (results_tmp2 rfl _ _ _) rfl ?_
     rw [HC.out]
     exact ⟨rfl, rfl⟩
end Go.Proofs.YtbhocahmhmafmaaGreat
namespace Go.Ren
set_option linter.unusedVariables false
structure Shm where
 n : Nat
 room : Nat
 M : List Blk
 Q : List (List Ent)
 L : Lg
def quB (s : Shm) (a : Int) : List Ent := s.Q.getD a.toNat []
def agB (s : Shm) (a : Int) : Bool := decide (0 ≤ a ∧ a < (s.n : Int))
def shNew (n room : Nat) : Shm := ⟨n, room, [], List.replicate n [], ⟨[], []⟩⟩
def shC (s : Shm) (ag k at_ size : Int) : Int := if agB s ag = false ∨ goodB size = false then 1 else bcheck s.M k at_ size
def shE (s : Shm) (ag k at_ size op : Int) : Int := if shC s ag k at_ size ≠ 0 then shC s ag k at_ size else if op < 1 ∨ 6 < op then 8 else if 1000 ≤ s.L.ev.length then 11 else 0
def shDrain (s : Shm) (a : Int) : Shm := ⟨s.n, s.room, qdrainM (quB s a) s.M, s.Q.set a.toNat [], s.L⟩
def shFlush (s : Shm) (a : Int) : Shm := ⟨s.n, s.room, qflushM (quB s a) s.M, s.Q.set a.toNat (quB s a).tail, s.L⟩
def shTear (s : Shm) (a : Int) : Shm := ⟨s.n, s.room, qtearM (quB s a) s.M, s.Q.set a.toNat (qtear (quB s a)), s.L⟩
def shPush (s : Shm) (e : Ev) : Shm := ⟨s.n, s.room, s.M, s.Q, ⟨s.L.ev ++ [e], s.L.pr⟩⟩
def shPut (s : Shm) (a : Int) (e : Ent) : Shm := ⟨s.n, s.room, s.M, s.Q.set a.toNat (qput s.room (quB s a) e), s.L⟩
def shWrite (s : Shm) (k at_ : Int) (b : List UInt8) (y : Int) : Shm := ⟨s.n, s.room, bwrite s.M k at_ b y, s.Q, s.L⟩
def ldB (s : Shm) (ag k at_ size : Int) : List UInt8 := qoverB (quB s ag) k at_ (breadB s.M k at_ size) (breadY s.M k at_ size)
def ldY (s : Shm) (ag k at_ size : Int) : List Int := qoverY (quB s ag) k at_ (breadB s.M k at_ size) (breadY s.M k at_ size)
def shLd (s : Shm) (ag k at_ size : Int) (seq nt : Bool) : Shm := shPush s ⟨ag, 1, seq, nt, k, at_, size, ldB s ag k at_ size, [], ldY s ag k at_ size⟩
def shSeq (s : Shm) (ag : Int) (seq : Bool) : Shm := if seq = true then shDrain s ag else s
def shLoad (s : Shm) (ag k at_ size : Int) (seq nt : Bool) : (Nat × Int) × Shm :=
 if shE s ag k at_ size 1 ≠ 0 then ((0, shE s ag k at_ size 1), s)
 else ((wordN (ldB (shSeq s ag seq) ag k at_ size), 0), shLd (shSeq s ag seq) ag k at_ size seq nt)
def stEv (ag k at_ size : Int) (w : Nat) (seq nt : Bool) : Ev := ⟨ag, 2, seq, nt, k, at_, size, [], bytesN size.toNat w, []⟩
def shRoom (s : Shm) (ag : Int) : Shm := if s.room ≤ (quB s ag).length then shFlush s ag else s
def shSt (s : Shm) (ag k at_ size : Int) (w : Nat) (seq nt : Bool) : Shm :=
 if seq = true ∨ s.room = 0 then shWrite (shDrain (shPush s (stEv ag k at_ size w seq nt)) ag) k at_ (bytesN size.toNat w) s.L.ev.length
 else shPut (shRoom (shPush s (stEv ag k at_ size w seq nt)) ag) ag ⟨k, at_, bytesN size.toNat w, s.L.ev.length, !nt⟩
def shStore (s : Shm) (ag k at_ size : Int) (w : Nat) (seq nt : Bool) : Int × Shm :=
 if shE s ag k at_ size 1 ≠ 0 then (shE s ag k at_ size 1, s) else (0, shSt s ag k at_ size w seq nt)
def whEv (s : Shm) (ag k at_ size : Int) : Ev := ⟨ag, 1, true, true, k, at_, size, breadB s.M k at_ size, [], breadY s.M k at_ size⟩
def chEv (s : Shm) (ag k at_ size : Int) (w : Nat) : Ev := ⟨ag, 3, true, true, k, at_, size, breadB s.M k at_ size, bytesN size.toNat w, breadY s.M k at_ size⟩
def shWhole (s : Shm) (ag k at_ size : Int) (w : Nat) (put : Bool) : Shm :=
 if put = true then shWrite (shPush s (chEv s ag k at_ size w)) k at_ (bytesN size.toNat w) s.L.ev.length
 else shPush s (whEv s ag k at_ size)
def shOld (s : Shm) (ag k at_ size : Int) : Nat := wordN (breadB (shDrain s ag).M k at_ size)
def shChange (s : Shm) (ag k at_ size op : Int) (w : Nat) : (Nat × Int) × Shm :=
 if shE s ag k at_ size op ≠ 0 then ((0, shE s ag k at_ size op), s)
 else ((shOld s ag k at_ size, 0), shWhole (shDrain s ag) ag k at_ size (changeK (kindC size) op (shOld s ag k at_ size) w).1 true)
def shSwap (s : Shm) (ag k at_ size : Int) (want w : Nat) : (Nat × Int) × Shm :=
 if shE s ag k at_ size 1 ≠ 0 then ((0, shE s ag k at_ size 1), s)
 else ((shOld s ag k at_ size, 0), shWhole (shDrain s ag) ag k at_ size w (breadB (shDrain s ag).M k at_ size == bytesN size.toNat want))
def drnB (e : Ev) : Bool := decide (e.kind = 0) || e.seq
def syL (s : Shm) (fr : List Int) : List Nat := (List.range s.L.ev.length).filter fun k => fr.contains (k : Int) && drnB (evn s.L.ev k)
def syEv (ag : Int) : Ev := ⟨ag, 0, false, false, 0, 0, 0, [], [], []⟩
def syP (s : Shm) (fr : List Int) : List (Int × Int) := (syL s fr).map fun k : Nat => ((k : Int), (s.L.ev.length : Int))
def shPairs (s : Shm) (p : List (Int × Int)) : Shm := ⟨s.n, s.room, s.M, s.Q, ⟨s.L.ev, s.L.pr ++ p⟩⟩
def syE (s : Shm) (ag : Int) (fr : List Int) : Int := if agB s ag = false then 1 else if 1000 ≤ s.L.ev.length ∨ 1000 < s.L.pr.length + (syL s fr).length then 11 else 0
def shSync (s : Shm) (ag : Int) (fr : List Int) : (Nat × Int) × Shm :=
 if syE s ag fr ≠ 0 then ((0, syE s ag fr), s) else ((s.L.ev.length, 0), shPairs (shPush (shDrain s ag) (syEv ag)) (syP s fr))
def shFl (s : Shm) (ag : Int) : Bool × Shm := if (agB s ag && !(quB s ag).isEmpty) = true then (true, shFlush s ag) else (false, s)
def shTr (s : Shm) (ag : Int) : Bool × Shm := if (agB s ag && qtears (quB s ag)) = true then (true, shTear s ag) else (false, s)
def shMake (s : Shm) (size : Int) : (Nat × Int) × Shm := (((bmakeN s.M size).toNat, bmakeE s.M size), ⟨s.n, s.room, bmake s.M size, s.Q, s.L⟩)
def shPend (s : Shm) (ag : Int) : Nat := if agB s ag = true then (quB s ag).length else 0
def shFin (s : Shm) : Nat → Shm
 | 0 => s
 | k + 1 => shDrain (shFin s k) k
structure Op20 where
 kind : Int
 ag : Int
 blk : Int
 at_ : Int
 size : Int
 op : Int
 seq : Bool
 nt : Bool
 word : Nat
 want : Nat
 fr : List Int
def shAct (s : Shm) (o : Op20) : (Nat × Int) × Shm :=
 if o.kind = 0 then shLoad s o.ag o.blk o.at_ o.size o.seq o.nt
 else if o.kind = 1 then ((0, (shStore s o.ag o.blk o.at_ o.size o.word o.seq o.nt).1), (shStore s o.ag o.blk o.at_ o.size o.word o.seq o.nt).2)
 else if o.kind = 2 then shChange s o.ag o.blk o.at_ o.size o.op o.word
 else if o.kind = 3 then shSwap s o.ag o.blk o.at_ o.size o.want o.word
 else if o.kind = 4 then shSync s o.ag o.fr
 else if o.kind = 5 then (((shFl s o.ag).1.toNat, 0), (shFl s o.ag).2)
 else if o.kind = 6 then (((shTr s o.ag).1.toNat, 0), (shTr s o.ag).2)
 else if o.kind = 7 then shMake s o.size
 else ((0, 0), s)
def shRun (s : Shm) : List Op20 → Shm
 | [] => s
 | o :: l => shRun (shAct s o).2 l
end Go.Ren
namespace Go.Ren
set_option linter.unusedVariables false
theorem blk_set {m : List Blk} {k i : Nat} {B : Blk} (hk : k < m.length) : blk (m.set k B) i = if i = k then B else blk m i := by
 unfold blk
 rw [List.getD_eq_getElem?_getD, List.getD_eq_getElem?_getD, List.getElem?_set]
 by_cases e : k = i
 · subst e; simp [hk]
 · rw [if_neg e, if_neg (fun h => e h.symm)]
theorem blk_snoc {m : List Blk} {i : Nat} {B : Blk} : blk (m ++ [B]) i = if i = m.length then B else blk m i := by
 unfold blk
 rw [List.getD_eq_getElem?_getD, List.getD_eq_getElem?_getD]
 by_cases e : i = m.length
 · subst e; simp
 · rw [if_neg e]
   by_cases h : i < m.length
   · rw [List.getElem?_append_left h]
   · rw [List.getElem?_eq_none (by simp; omega), List.getElem?_eq_none (by omega)]
theorem bok_write {m : List Blk} (h : BOk m) (k a : Int) (x : List UInt8) {y : Int} (hy : I64 y) : BOk (bwrite m k a x y) := by
 unfold bwrite
 by_cases hc : bcheck m k a x.length = 0
 · rw [if_pos hc]
   obtain ⟨c1, c2, c3, c4, c5, c6⟩ := bcheck_0 hc
   have hk : k.toNat < m.length := by omega
   have hl := h.len k.toNat hk
   have lb : (wBlk (blk m k.toNat) a.toNat x y).b.length = (blk m k.toNat).b.length := wBlk_b (by omega)
   have ly : (wBlk (blk m k.toNat) a.toNat x y).y.length = (blk m k.toNat).y.length := wBlk_y (by omega)
   refine ⟨by simpa using h.cnt, fun i hi => ?_, fun i hi => ?_, fun i hi => ?_⟩
   all_goals
    have hi' : i < m.length := by simpa using hi
    rw [blk_set hk]
    split
   · rw [ly, lb, hl]
   · exact h.len i hi'
   · rw [lb]; exact h.top _ hk
   · exact h.top i hi'
   · intro u hu
     simp only [wBlk, splice, List.mem_append] at hu
     rcases hu with hu | hu | hu
     · exact h.ok _ hk u (List.mem_of_mem_take hu)
     · rw [List.eq_of_mem_replicate hu]; exact hy
     · exact h.ok _ hk u (List.mem_of_mem_drop hu)
   · exact h.ok i hi'
 · rw [if_neg hc]; exact h
theorem bok_make {m : List Blk} (h : BOk m) (size : Int) : BOk (bmake m size) := by
 unfold bmake
 by_cases hc : bmakeE m size = 0
 · rw [if_pos hc]
   unfold bmakeE at hc
   have h1 : 0 ≤ size ∧ size ≤ 256 ∧ m.length < 16 := by split at hc; omega; split at hc; omega; omega
   refine ⟨by simp; omega, fun i hi => ?_, fun i hi => ?_, fun i hi => ?_⟩
   all_goals
    have hi' : i < m.length + 1 := by simpa using hi
    rw [blk_snoc]
    split
   · simp [newBlk]
   · exact h.len i (by omega)
   · simp [newBlk]; omega
   · exact h.top i (by omega)
   · intro u hu
     simp only [newBlk] at hu
     rw [List.eq_of_mem_replicate hu]; unfold I64; omega
   · exact h.ok i (by omega)
 · rw [if_neg hc]; exact h
theorem bok_flush {E : List Ent} {m : List Blk} (h : BOk m) (hE : ∀ e ∈ E, EOk e) : BOk (qflushM E m) := by
 cases E with
 | nil => exact h
 | cons e E => have := (hE e (by simp)).by_; exact bok_write h _ _ _ (by unfold I64; omega)
theorem bok_tear {E : List Ent} {m : List Blk} (h : BOk m) (hE : ∀ e ∈ E, EOk e) : BOk (qtearM E m) := by
 cases E with
 | nil => exact h
 | cons e E =>
  have := (hE e (by simp)).by_
  simp only [qtearM]
  split
  · exact bok_write h _ _ _ (by unfold I64; omega)
  · exact h
theorem bok_drain {E : List Ent} {m : List Blk} (h : BOk m) (hE : ∀ e ∈ E, EOk e) : BOk (qdrainM E m) := by
 induction E generalizing m with
 | nil => exact h
 | cons e E ih => rw [qdrainM_cons]; exact ih (bok_flush h hE) (fun x hx => hE x (by simp [hx]))
structure ShOk (s : Shm) : Prop where
 n1 : 1 ≤ s.n ∧ s.n ≤ 64
 rm : s.room ≤ 64
 ql : s.Q.length = s.n
 qc : ∀ i : Nat, i < s.n → (quB s (i : Int)).length ≤ s.room
 qe : ∀ i : Nat, i < s.n → ∀ e ∈ quB s (i : Int), EOk e
 bk : BOk s.M
 ev : s.L.ev.length ≤ 1000
 pr : s.L.pr.length ≤ 1000
 evI : ∀ i, i < s.L.ev.length → EvI (evn s.L.ev i)
 ls : ∀ i, i < s.L.ev.length → (evn s.L.ev i).rd.length ≤ 8 ∧ (evn s.L.ev i).wr.length ≤ 8 ∧ (evn s.L.ev i).fr.length ≤ 8
 prk : ∀ p ∈ s.L.pr, prOk s.L.ev.length p = true
theorem agB_iff {s : Shm} {a : Int} : agB s a = true ↔ ∃ i : Nat, a = i ∧ i < s.n := by
 unfold agB
 rw [decide_eq_true_eq]
 constructor
 · intro h; exact ⟨a.toNat, by omega, by omega⟩
 · rintro ⟨i, rfl, h⟩; omega
theorem quB_set {s : Shm} {M : List Blk} {E : List Ent} {i : Nat} {L : Lg} (hi : i < s.Q.length) (j : Nat) : quB ⟨s.n, s.room, M, s.Q.set i E, L⟩ (j : Int) = if j = i then E else quB s (j : Int) := by
 unfold quB
 simp only [Int.toNat_natCast]
 rw [List.getD_eq_getElem?_getD, List.getD_eq_getElem?_getD, List.getElem?_set]
 by_cases e : i = j
 · subst e; simp [hi]
 · rw [if_neg e, if_neg (fun h => e h.symm)]
theorem ShOk.setQ {s : Shm} (h : ShOk s) {i : Nat} (hi : i < s.n) {M : List Blk} {E : List Ent} (hM : BOk M) (hc : E.length ≤ s.room) (hE : ∀ e ∈ E, EOk e) : ShOk ⟨s.n, s.room, M, s.Q.set i E, s.L⟩ := by
 have hiq : i < s.Q.length := by rw [h.ql]; exact hi
 refine ⟨h.n1, h.rm, by simpa using h.ql, fun j hj => ?_, fun j hj => ?_, hM, h.ev, h.pr, h.evI, h.ls, h.prk⟩
 · rw [quB_set hiq]
   split
   · exact hc
   · exact h.qc j hj
 · rw [quB_set hiq]
   split
   · exact hE
   · exact h.qe j hj
theorem ShOk.setM {s : Shm} (h : ShOk s) {M : List Blk} (hM : BOk M) : ShOk ⟨s.n, s.room, M, s.Q, s.L⟩ := ⟨h.n1, h.rm, h.ql, h.qc, h.qe, hM, h.ev, h.pr, h.evI, h.ls, h.prk⟩
theorem ShOk.drain {s : Shm} (h : ShOk s) {i : Nat} (hi : i < s.n) : ShOk (shDrain s (i : Int)) := h.setQ hi (bok_drain h.bk (h.qe i hi)) (Nat.zero_le _) (fun e he => by cases he)
theorem ShOk.flush {s : Shm} (h : ShOk s) {i : Nat} (hi : i < s.n) : ShOk (shFlush s (i : Int)) :=
 h.setQ hi (bok_flush h.bk (h.qe i hi)) (by have := h.qc i hi; simp; omega) (fun e he => h.qe i hi e (List.mem_of_mem_tail he))
theorem qtear_len (E : List Ent) : (qtear E).length = E.length := by
 cases E with
 | nil => rfl
 | cons e E => simp only [qtear]; split <;> rfl
theorem qtear_ok {E : List Ent} (h : ∀ e ∈ E, EOk e) : ∀ e ∈ qtear E, EOk e := by
 cases E with
 | nil => exact h
 | cons e E =>
  simp only [qtear]
  split
  · rename_i ht
    intro x hx
    rcases List.mem_cons.1 hx with rfl | hx
    · exact tearEnt_ok (h e (by simp)) ht
    · exact h x (by simp [hx])
  · exact h
theorem ShOk.tear {s : Shm} (h : ShOk s) {i : Nat} (hi : i < s.n) : ShOk (shTear s (i : Int)) :=
 h.setQ hi (bok_tear h.bk (h.qe i hi)) (by rw [qtear_len]; exact h.qc i hi) (qtear_ok (h.qe i hi))
theorem qput_ok {room : Nat} {E : List Ent} {e : Ent} (h : ∀ x ∈ E, EOk x) (hc : E.length ≤ room) (h1 : I64 e.blk ∧ I64 e.by_) : (∀ x ∈ qput room E e, EOk x) ∧ (qput room E e).length ≤ room := by
 unfold qput
 by_cases he : qputE room E e = 0
 · rw [if_pos he]
   obtain ⟨c1, c2, c3, c4, c5, c6, c7⟩ := qputE_0 he
   obtain ⟨i1, i2⟩ := h1
   unfold I64 at i1 i2
   refine ⟨fun x hx => ?_, by simp; omega⟩
   rcases List.mem_append.1 hx with hx | hx
   · exact h x hx
   · rw [List.mem_singleton.1 hx]; exact ⟨⟨c1, by omega⟩, ⟨c2, by omega⟩, ⟨c3, by omega⟩, ⟨c5, c6⟩⟩
 · rw [if_neg he]; exact ⟨h, hc⟩
theorem ShOk.put {s : Shm} (h : ShOk s) {i : Nat} (hi : i < s.n) {e : Ent} (h1 : I64 e.blk ∧ I64 e.by_) : ShOk (shPut s (i : Int) e) :=
 h.setQ hi h.bk (qput_ok (h.qe i hi) (h.qc i hi) h1).2 (qput_ok (h.qe i hi) (h.qc i hi) h1).1
theorem ShOk.write {s : Shm} (h : ShOk s) (k a : Int) (b : List UInt8) {y : Int} (hy : I64 y) : ShOk (shWrite s k a b y) := h.setM (bok_write h.bk k a b hy)
theorem ShOk.make {s : Shm} (h : ShOk s) (size : Int) : ShOk (shMake s size).2 := h.setM (bok_make h.bk size)
theorem evn_lt {L : List Ev} {e : Ev} {i : Nat} (h : i < L.length) : evn (L ++ [e]) i = evn L i := by simp [evn, List.getElem?_append_left h]
theorem evn_at {L : List Ev} {e : Ev} : evn (L ++ [e]) L.length = e := by simp [evn]
theorem prOk_mono {n m : Nat} (h : n ≤ m) {p : Int × Int} (hp : prOk n p = true) : prOk m p = true := by
 unfold prOk at hp ⊢
 rw [decide_eq_true_eq] at hp ⊢
 omega
theorem ShOk.push {s : Shm} (h : ShOk s) (hl : s.L.ev.length < 1000) {e : Ev} (he : EvI e) (hs : e.rd.length ≤ 8 ∧ e.wr.length ≤ 8 ∧ e.fr.length ≤ 8) : ShOk (shPush s e) := by
 have hlen : (s.L.ev ++ [e]).length = s.L.ev.length + 1 := by simp
 refine ⟨h.n1, h.rm, h.ql, h.qc, h.qe, h.bk, by show (s.L.ev ++ [e]).length ≤ 1000; omega, h.pr, fun i hi => ?_, fun i hi => ?_, fun p hp => ?_⟩
 · have hi' : i < s.L.ev.length + 1 := by have : i < (s.L.ev ++ [e]).length := hi; omega
   show EvI (evn (s.L.ev ++ [e]) i)
   by_cases e0 : i = s.L.ev.length
   · subst e0; rw [evn_at]; exact he
   · rw [evn_lt (by omega)]; exact h.evI i (by omega)
 · have hi' : i < s.L.ev.length + 1 := by have : i < (s.L.ev ++ [e]).length := hi; omega
   show (evn (s.L.ev ++ [e]) i).rd.length ≤ 8 ∧ (evn (s.L.ev ++ [e]) i).wr.length ≤ 8 ∧ (evn (s.L.ev ++ [e]) i).fr.length ≤ 8
   by_cases e0 : i = s.L.ev.length
   · subst e0; rw [evn_at]; exact hs
   · rw [evn_lt (by omega)]; exact h.ls i (by omega)
 · show prOk (s.L.ev ++ [e]).length p = true
   exact prOk_mono (by omega) (h.prk p hp)
theorem ShOk.pairs {s : Shm} (h : ShOk s) {P : List (Int × Int)} (hl : s.L.pr.length + P.length ≤ 1000) (hp : ∀ p ∈ P, prOk s.L.ev.length p = true) : ShOk (shPairs s P) := by
 refine ⟨h.n1, h.rm, h.ql, h.qc, h.qe, h.bk, h.ev, by show (s.L.pr ++ P).length ≤ 1000; simp; omega, h.evI, h.ls, fun p hpp => ?_⟩
 rcases List.mem_append.1 hpp with hpp | hpp
 · exact h.prk p hpp
 · exact hp p hpp
theorem bok_none : BOk [] := ⟨Nat.zero_le _, fun i h => absurd h (Nat.not_lt_zero _), fun i h => absurd h (Nat.not_lt_zero _), fun i h => absurd h (Nat.not_lt_zero _)⟩
theorem new_quB (n room : Nat) (a : Int) : quB (shNew n room) a = [] := by
 unfold quB shNew
 rw [List.getD_eq_getElem?_getD, List.getElem?_replicate]
 split <;> rfl
theorem ok_new {n room : Nat} (h : 1 ≤ n ∧ n ≤ 64) (hr : room ≤ 64) : ShOk (shNew n room) :=
 ⟨h, hr, by simp [shNew], fun i hi => (by rw [new_quB]; exact Nat.zero_le _), fun i hi e he => (by rw [new_quB] at he; cases he), bok_none,
  Nat.zero_le _, Nat.zero_le _, fun i hi => absurd hi (Nat.not_lt_zero _), fun i hi => absurd hi (Nat.not_lt_zero _), fun p hp => by cases hp⟩
structure Asked (s : Shm) (ag k at_ size : Int) : Prop where
 ag : ∃ i : Nat, ag = i ∧ i < s.n
 sz : size = 1 ∨ size = 2 ∨ size = 4 ∨ size = 8
 chk : bcheck s.M k at_ size = 0
theorem shC_0 {s : Shm} {ag k at_ size : Int} (h : shC s ag k at_ size = 0) : Asked s ag k at_ size := by
 unfold shC at h
 split at h
 · omega
 · rename_i h1
   have h2 : agB s ag = true := by cases e : agB s ag <;> simp_all
   have h3 : goodB size = true := by cases e : goodB size <;> simp_all
   exact ⟨agB_iff.1 h2, by unfold goodB at h3; simpa using h3, h⟩
theorem shE_0 {s : Shm} {ag k at_ size op : Int} (h : shE s ag k at_ size op = 0) : Asked s ag k at_ size ∧ (1 ≤ op ∧ op ≤ 6) ∧ s.L.ev.length < 1000 := by
 unfold shE at h
 split at h
 · rename_i h1; exact absurd h h1
 · rename_i h1
   split at h
   · omega
   · split at h
     · omega
     · exact ⟨shC_0 (by omega), by omega, by omega⟩
theorem Asked.rng {s : Shm} {ag k at_ size : Int} (h : Asked s ag k at_ size) (hk : ShOk s) : I64 ag ∧ I64 k ∧ I64 at_ ∧ I64 size ∧ 0 ≤ k ∧ 0 ≤ at_ ∧ at_ + size ≤ 256 := by
 obtain ⟨i, rfl, hi⟩ := h.ag
 obtain ⟨c1, c2, c3, c4, c5, c6⟩ := bcheck_0 h.chk
 have := hk.n1
 have h1 := hk.bk.cnt
 have h2 := hk.bk.top k.toNat (by omega)
 have h3 := h.sz
 unfold I64
 omega
theorem qdrainM_size (E : List Ent) (m : List Blk) (k : Int) : (∀ a n, bcheck (qdrainM E m) k a n = bcheck m k a n) ∧ (qdrainM E m).length = m.length := by
 induction E generalizing m with
 | nil => exact ⟨fun _ _ => rfl, rfl⟩
 | cons e E ih =>
  rw [qdrainM_cons]
  have hw : (∀ a n, bcheck (qflushM (e :: E) m) k a n = bcheck m k a n) ∧ (qflushM (e :: E) m).length = m.length := by
   simp only [qflushM]
   unfold bwrite
   by_cases hc : bcheck m e.blk e.at_ e.b.length = 0
   · rw [if_pos hc]
     obtain ⟨c1, c2, c3, c4, c5, c6⟩ := bcheck_0 hc
     have hk : e.blk.toNat < m.length := by omega
     refine ⟨fun a n => ?_, by simp⟩
     have hs : bsize (m.set e.blk.toNat (wBlk (blk m e.blk.toNat) e.at_.toNat e.b e.by_)) k = bsize m k := by
      unfold bsize
      rw [List.length_set, blk_set hk]
      split
      · split
        · rename_i h1 h2; rw [h2, wBlk_b (by omega)]
        · rfl
      · rfl
     unfold bcheck
     rw [hs]
   · rw [if_neg hc]; exact ⟨fun _ _ => rfl, rfl⟩
  refine ⟨fun a n => ?_, ?_⟩
  · rw [(ih _).1, hw.1]
  · rw [(ih _).2, hw.2]
theorem Asked.drain {s : Shm} {ag k at_ size : Int} (h : Asked s ag k at_ size) (a : Int) : Asked (shDrain s a) ag k at_ size := ⟨h.ag, h.sz, by show bcheck (qdrainM _ s.M) k at_ size = 0; rw [(qdrainM_size _ _ k).1]; exact h.chk⟩
theorem bread_len20 {m : List Blk} (h : BOk m) {k a n : Int} : (breadB m k a n).length = (breadY m k a n).length ∧ (breadB m k a n).length ≤ n.toNat ∧ (bcheck m k a n = 0 → (breadB m k a n).length = n.toNat) := by
 unfold breadB breadY
 by_cases hc : bcheck m k a n = 0
 · rw [if_pos hc, if_pos hc]
   obtain ⟨c1, c2, c3, c4, c5, c6⟩ := bcheck_0 hc
   have hl := h.len k.toNat (by omega)
   unfold cut
   simp only [List.length_take, List.length_drop, hl]
   have : a.toNat + n.toNat ≤ (blk m k.toNat).b.length := by omega
   exact ⟨trivial, by omega, fun _ => by omega⟩
 · rw [if_neg hc, if_neg hc]; exact ⟨rfl, Nat.zero_le _, fun h => absurd h hc⟩
theorem breadY_i {m : List Blk} (h : BOk m) {k a n : Int} : ∀ x ∈ breadY m k a n, I64 x := by
 intro x hx
 unfold breadY at hx
 split at hx
 · rename_i h0
   obtain ⟨q1, q2, _⟩ := bcheck_0 h0
   exact h.ok k.toNat (by omega) x (by unfold cut at hx; exact List.mem_of_mem_drop (List.mem_of_mem_take hx))
 · cases hx
theorem quB_I {s : Shm} (h : ShOk s) {i : Nat} (hi : i < s.n) : ∀ e ∈ quB s (i : Int), I64 e.by_ := fun e he => by have := (h.qe i hi e he).by_; unfold I64; omega
theorem ld_facts {s : Shm} {ag k at_ size : Int} (hk : ShOk s) (h : Asked s ag k at_ size) : (ldB s ag k at_ size).length = size.toNat ∧ (ldY s ag k at_ size).length = size.toNat ∧ (∀ x ∈ ldY s ag k at_ size, I64 x) ∧ size.toNat ≤ 8 := by
 obtain ⟨i, rfl, hi⟩ := h.ag
 have h1 := bread_len20 hk.bk (k := k) (a := at_) (n := size)
 have h2 := h1.2.2 h.chk
 have h3 := qover_len (quB s (i : Int)) k at_ (breadB s.M k at_ size) (breadY s.M k at_ size)
 have h4 := h.sz
 refine ⟨by unfold ldB; rw [h3.1, h2], by unfold ldY; rw [h3.2, ← h1.1, h2], ?_, by omega⟩
 unfold ldY
 exact qoverY_ok (quB_I hk hi) (breadY_i hk.bk)
theorem i64_one {n : Int} (h : decide (-9223372036854775808 ≤ n ∧ n ≤ 9223372036854775807) = true) : I64 n := by simp at h; unfold I64; omega
theorem ShOk.ld {s : Shm} {ag k at_ size : Int} {seq nt : Bool} (hk : ShOk s) (h : Asked s ag k at_ size) (hl : s.L.ev.length < 1000) : ShOk (shLd s ag k at_ size seq nt) := by
 obtain ⟨f1, f2, f3, f4⟩ := ld_facts hk h
 obtain ⟨r1, r2, r3, r4, r5, r6, r7⟩ := h.rng hk
 exact hk.push hl ⟨r1, i64_one rfl, r2, r3, r4, f3⟩ ⟨by show (ldB _ _ _ _ _).length ≤ 8; omega, by simp, by show (ldY _ _ _ _ _).length ≤ 8; omega⟩
theorem ShOk.st0 {s : Shm} {ag k at_ size : Int} {w : Nat} {seq nt : Bool} (hk : ShOk s) (h : Asked s ag k at_ size) (hl : s.L.ev.length < 1000) : ShOk (shPush s (stEv ag k at_ size w seq nt)) := by
 obtain ⟨r1, r2, r3, r4, r5, r6, r7⟩ := h.rng hk
 have h4 := h.sz
 exact hk.push hl ⟨r1, i64_one rfl, r2, r3, r4, fun x hx => by cases hx⟩ ⟨by simp [stEv], by simp only [stEv, bytesN_len]; omega, by simp [stEv]⟩
theorem i64_lg {s : Shm} (h : ShOk s) : I64 (s.L.ev.length : Int) := by have := h.ev; unfold I64; omega
theorem ShOk.whole {s : Shm} {ag k at_ size : Int} {w : Nat} {put : Bool} (hk : ShOk s) (h : Asked s ag k at_ size) (hl : s.L.ev.length < 1000) : ShOk (shWhole s ag k at_ size w put) := by
 obtain ⟨r1, r2, r3, r4, r5, r6, r7⟩ := h.rng hk
 have h1 := bread_len20 hk.bk (k := k) (a := at_) (n := size)
 have h2 := h1.2.2 h.chk
 have h4 := h.sz
 unfold shWhole
 split
 · refine ShOk.write (hk.push hl ⟨r1, i64_one rfl, r2, r3, r4, breadY_i hk.bk⟩ ⟨?_, ?_, ?_⟩) _ _ _ (i64_lg hk)
   · show (breadB _ _ _ _).length ≤ 8; omega
   · simp only [chEv, bytesN_len]; omega
   · show (breadY _ _ _ _).length ≤ 8; omega
 · refine hk.push hl ⟨r1, i64_one rfl, r2, r3, r4, breadY_i hk.bk⟩ ⟨?_, ?_, ?_⟩
   · show (breadB _ _ _ _).length ≤ 8; omega
   · simp [whEv]
   · show (breadY _ _ _ _).length ≤ 8; omega
theorem ShOk.seq_ {s : Shm} {ag k at_ size : Int} {seq : Bool} (hk : ShOk s) (h : Asked s ag k at_ size) : ShOk (shSeq s ag seq) ∧ Asked (shSeq s ag seq) ag k at_ size := by
 unfold shSeq
 split
 · have h' := h.drain ag
   obtain ⟨i, rfl, hi⟩ := h.ag
   exact ⟨hk.drain hi, h'⟩
 · exact ⟨hk, h⟩
theorem syP_ok {s : Shm} {fr : List Int} : ∀ p ∈ syP s fr, prOk (s.L.ev.length + 1) p = true := by
 intro p hp
 unfold syP syL at hp
 rw [List.mem_map] at hp
 obtain ⟨k, hk, rfl⟩ := hp
 rw [List.mem_filter, List.mem_range] at hk
 unfold prOk
 rw [decide_eq_true_eq]
 have := hk.1
 show 0 ≤ (k : Int) ∧ (k : Int) < _ ∧ _
 omega
theorem shSeq_L (s : Shm) (ag : Int) (seq : Bool) : (shSeq s ag seq).L = s.L := by unfold shSeq; split <;> rfl
end Go.Ren
namespace Go.Ren
set_option linter.unusedVariables false
end Go.Ren
namespace Go.Ren
set_option linter.unusedVariables false
end Go.Ren
namespace Go.Ren
set_option linter.unusedVariables false
end Go.Ren
namespace Go.Ren
set_option linter.unusedVariables false
end Go.Ren
namespace Go.Ren
set_option linter.unusedVariables false
theorem bytesN_first (n m : Nat) : bytesN (n + 1) m = UInt8.ofNat m :: bytesN n (m / 256) := by
 unfold bytesN
 rw [List.range_succ_eq_map, List.map_cons, List.map_map]
 refine congr (congrArg List.cons (by simp)) (List.map_congr_left fun i _ => ?_)
 simp only [Function.comp]
 rw [Nat.shiftRight_eq_div_pow, Nat.shiftRight_eq_div_pow, Nat.div_div_eq_div_mul, show 8 * (i + 1) = 8 + 8 * i by omega, Nat.pow_add]
theorem word_bytes (n m : Nat) : wordN (bytesN n m) = m % 2 ^ (8 * n) := by
 induction n generalizing m with
 | zero => simp [bytesN, wordN, Nat.mod_one]
 | succ n ih =>
  rw [bytesN_first]
  show (UInt8.ofNat m).toNat + 256 * wordN (bytesN n (m / 256)) = _
  rw [ih]
  have h1 : (UInt8.ofNat m).toNat = m % 256 := by simp
  rw [h1, show 8 * (n + 1) = 8 + 8 * n by omega, Nat.pow_add]
  rw [show (2 : Nat) ^ 8 = 256 from rfl, Nat.mod_mul]
def own1 (s : Shm) (a size : Int) (w : Nat) : Shm := (shStore s 0 0 a size w false (decide (size < 8))).2
def own2 (s : Shm) (a size : Int) (w : Nat) : Shm := (shLoad (own1 s a size w) 0 0 a size false true).2
def own3 (s : Shm) (a size : Int) (w : Nat) : Shm := (shTr (own2 s a size w) 0).2
end Go.Ren
