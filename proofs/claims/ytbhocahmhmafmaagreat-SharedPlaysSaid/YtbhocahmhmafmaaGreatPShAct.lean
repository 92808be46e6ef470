/-
  The contracts of renlaw20.flag and renlaw20.Act. No condition.
-/
import Derived.Test.YtbhocahmhmafmaaGreatPOp20
import Derived.Test.YtbhocahmhmafmaaGreatPShSync
import Derived.Test.YtbhocahmhmafmaaGreatPShNote
namespace Go.Proofs.YtbhocahmhmafmaaGreat
open Go.Ren Go.RowKit
set_option linter.unusedVariables false
theorem ShTo.pre {z : ShV} {s s' : Shm} {w w0 w' : World} (x : Ext w w0) (h : ShTo z s s' w0 w') : ShTo z s s' w w' := ShTo.trans (z := z) rfl (x.mod _) (fun k hk => .inl hk) h
theorem sync_u64 {s : Shm} (hk : ShOk s) (ag : Int) (fr : List Int) : IntKind.u64.wrap ((shSync s ag fr).1.1 : Int) = ((shSync s ag fr).1.1 : Int) := by
 have h := hk.ev
 have h1 : (shSync s ag fr).1.1 ≤ 1000 := by unfold shSync; split; exact Nat.zero_le _; exact h
 exact IntWalk.u64_in _ (by omega)
theorem make_u64 {s : Shm} (hk : ShOk s) (size : Int) : IntKind.u64.wrap ((shMake s size).1.1 : Int) = ((shMake s size).1.1 : Int) := by
 have h1 : (shMake s size).1.1 ≤ s.M.length := by unfold shMake bmakeN; simp only []; split <;> omega
 have h2 := hk.bk
 exact IntWalk.u64_in _ (by have := h2.cnt; omega)
theorem flag_any (w : World) (b : Bool) : Calls Tryz.prog 50 #[.bool b] w fun e w' => e = .returned (.int .u64 (b.toNat : Int)) ∧ w = w' := by
 cases b
 · go_enter Tryz.func50, Tryz.ntmps50
   go_wp2
   go_ret
   exact ⟨rfl, rfl⟩
 · go_enter Tryz.func50, Tryz.ntmps50
   go_wp2
   go_ret
   exact ⟨rfl, rfl⟩
set_option maxRecDepth 100000 in
set_option maxHeartbeats 1600000 in
theorem act_any (w : World) (z : ShV) (s : Shm) (h : ShIn w z s) (o : Op20) (v : Value) (ho : Op20In w o v) :
 Calls Tryz.prog 12 #[ptr z.g, o20V o v] w (ActPost z s (shAct s o) w) := by
 have k1 := Sl.cells_eq ho.fr.sl
 have t1 := Sl.run_st (P := Tryz.prog) ho.fr.sl
 have HI0 := Lib.hid ho
 obtain ⟨kd, ag, bl, pa, sz, op, sq, nt, wd, wt, fr⟩ := o
 simp only [o20V] at k1 t1 ⊢
 obtain ⟨w0, hw0⟩ : ∃ w0, w0 = w.alloc (.cells #[.int .i64 kd, .int .i64 ag, .int .i64 bl, .int .i64 pa, .int .i64 sz, .int .i64 op, .bool sq, .bool nt, .int .u64 (wd : Int), .int .u64 (wt : Int), v] 35) := ⟨_, rfl⟩
 obtain ⟨g, hg⟩ : ∃ g, g = w.heap.size := ⟨_, rfl⟩
 have x0 : Ext w w0 := by rw [hw0]; exact (Mod.refl _ _).alloc _
 have h0 : w0.heap[g]? = some (.cells #[.int .i64 kd, .int .i64 ag, .int .i64 bl, .int .i64 pa, .int .i64 sz, .int .i64 op, .bool sq, .bool nt, .int .u64 (wd : Int), .int .u64 (wt : Int), v] 35 (0, 0)) := by rw [hw0, hg]; exact heap_alloc_new _ _
 have c0 : w0.cell? ⟨g, 0, none⟩ = some (.int .i64 kd) := by simp [World.cell?, h0]
 have c1 : w0.cell? ⟨g, 1, none⟩ = some (.int .i64 ag) := by simp [World.cell?, h0]
 have c2 : w0.cell? ⟨g, 2, none⟩ = some (.int .i64 bl) := by simp [World.cell?, h0]
 have c3 : w0.cell? ⟨g, 3, none⟩ = some (.int .i64 pa) := by simp [World.cell?, h0]
 have c4 : w0.cell? ⟨g, 4, none⟩ = some (.int .i64 sz) := by simp [World.cell?, h0]
 have c5 : w0.cell? ⟨g, 5, none⟩ = some (.int .i64 op) := by simp [World.cell?, h0]
 have c6 : w0.cell? ⟨g, 6, none⟩ = some (.bool sq) := by simp [World.cell?, h0]
 have c7 : w0.cell? ⟨g, 7, none⟩ = some (.bool nt) := by simp [World.cell?, h0]
 have c8 : w0.cell? ⟨g, 8, none⟩ = some (.int .u64 (wd : Int)) := by simp [World.cell?, h0]
 have c9 : w0.cell? ⟨g, 9, none⟩ = some (.int .u64 (wt : Int)) := by simp [World.cell?, h0]
 have c10 : w0.cell? ⟨g, 10, none⟩ = some v := by simp [World.cell?, h0]
 have HS := Lib.hid (h.ext x0)
 have HI := Lib.hid (HI0.out.ext x0)
 have HW := Lib.hid (And.intro hw0 (And.intro hg x0))
 clear hw0 hg x0 h0 h ho HI0
 rcases (by omega : kd = 0 ∨ kd = 1 ∨ kd = 2 ∨ kd = 3 ∨ kd = 4 ∨ kd = 5 ∨ kd = 6 ∨ kd = 7 ∨ (kd < 0 ∨ 7 < kd)) with rfl | rfl | rfl | rfl | rfl | rfl | rfl | rfl | hk
 · have HE : Hid (shAct s ⟨0, ag, bl, pa, sz, op, sq, nt, wd, wt, fr⟩ = shLoad s ag bl pa sz sq nt) := Lib.hid rfl
   rw [HE.out]
   go_enter Tryz.func12, Tryz.ntmps12
   go_upto_region 1 with fail
   rw [← HW.out.1, ← HW.out.2.1]
   go_wp2_with fail
   refine (shload_any _ z s HS.out ag bl pa sz sq nt).mono ?_
   rintro e w' ⟨rfl, P⟩
   have HP := Lib.hid P
   clear P
   go_wp2_with fail
   go_ret2
   exact ⟨rfl, ShTo.pre HW.out.2.2 HP.out⟩
 · have HE : Hid (shAct s ⟨1, ag, bl, pa, sz, op, sq, nt, wd, wt, fr⟩ = ((0, (shStore s ag bl pa sz wd sq nt).1), (shStore s ag bl pa sz wd sq nt).2)) := Lib.hid rfl
   rw [HE.out]
   go_enter Tryz.func12, Tryz.ntmps12
   go_upto_region 1 with fail
   rw [← HW.out.1, ← HW.out.2.1]
   go_wp2_with fail
   refine (shstore_any _ z s HS.out ag bl pa sz wd HI.out.w1 sq nt).mono ?_
   rintro e w' ⟨rfl, P⟩
   have HP := Lib.hid P
   clear P
   go_wp2_with fail
   go_ret2
   exact ⟨rfl, ShTo.pre HW.out.2.2 HP.out⟩
 · have HE : Hid (shAct s ⟨2, ag, bl, pa, sz, op, sq, nt, wd, wt, fr⟩ = shChange s ag bl pa sz op wd) := Lib.hid rfl
   rw [HE.out]
   go_enter Tryz.func12, Tryz.ntmps12
   go_upto_region 1 with fail
   rw [← HW.out.1, ← HW.out.2.1]
   go_wp2_with fail
   refine (shchange_any _ z s HS.out ag bl pa sz op wd HI.out.w1).mono ?_
   rintro e w' ⟨rfl, P⟩
   have HP := Lib.hid P
   clear P
   go_wp2_with fail
   go_ret2
   exact ⟨rfl, ShTo.pre HW.out.2.2 HP.out⟩
 · have HE : Hid (shAct s ⟨3, ag, bl, pa, sz, op, sq, nt, wd, wt, fr⟩ = shSwap s ag bl pa sz wt wd) := Lib.hid rfl
   rw [HE.out]
   go_enter Tryz.func12, Tryz.ntmps12
   go_upto_region 1 with fail
   rw [← HW.out.1, ← HW.out.2.1]
   go_wp2_with fail
   refine (shswap_any _ z s HS.out ag bl pa sz wt wd HI.out.w2 HI.out.w1).mono ?_
   rintro e w' ⟨rfl, P⟩
   have HP := Lib.hid P
   clear P
   go_wp2_with fail
   go_ret2
   exact ⟨rfl, ShTo.pre HW.out.2.2 HP.out⟩
 · have HE : Hid (shAct s ⟨4, ag, bl, pa, sz, op, sq, nt, wd, wt, fr⟩ = shSync s ag fr) := Lib.hid rfl
   rw [HE.out]
   have HU : Hid (IntKind.u64.wrap ((shSync s ag fr).1.1 : Int) = ((shSync s ag fr).1.1 : Int)) := Lib.hid (sync_u64 HS.out.ok ag fr)
   go_enter Tryz.func12, Tryz.ntmps12
   go_upto_region 1 with fail
   rw [← HW.out.1, ← HW.out.2.1]
   go_wp2_with fail
   refine (shsync_any _ z s HS.out ag v fr HI.out.fr HI.out.far).mono ?_
   rintro e w' ⟨rfl, P⟩
   have HP := Lib.hid P
   clear P
   obtain ⟨R, hR⟩ : ∃ R, R = (shSync s ag fr).1.1 := ⟨_, rfl⟩
   have HR := Lib.hid hR
   have hu : IntKind.u64.wrap (R : Int) = (R : Int) := by rw [hR]; exact HU.out
   rw [← hR]
   clear hR
   go_wp2_with fail
   go_ret2
   exact ⟨by have e := HR.out; subst e; rfl, ShTo.pre HW.out.2.2 HP.out⟩
 · have HE : Hid (shAct s ⟨5, ag, bl, pa, sz, op, sq, nt, wd, wt, fr⟩ = (((shFl s ag).1.toNat, 0), (shFl s ag).2)) := Lib.hid rfl
   rw [HE.out]
   go_enter Tryz.func12, Tryz.ntmps12
   go_upto_region 1 with fail
   rw [← HW.out.1, ← HW.out.2.1]
   go_wp2_with fail
   refine (shflush_any _ z s HS.out ag).mono ?_
   rintro e w' ⟨rfl, P⟩
   have HP := Lib.hid P
   clear P
   go_wp2_with fail
   refine (flag_any _ _).mono ?_
   rintro e w9 ⟨rfl, rfl⟩
   go_wp2_with fail
   go_ret2
   exact ⟨rfl, ShTo.pre HW.out.2.2 HP.out⟩
 · have HE : Hid (shAct s ⟨6, ag, bl, pa, sz, op, sq, nt, wd, wt, fr⟩ = (((shTr s ag).1.toNat, 0), (shTr s ag).2)) := Lib.hid rfl
   rw [HE.out]
   go_enter Tryz.func12, Tryz.ntmps12
   go_upto_region 1 with fail
   rw [← HW.out.1, ← HW.out.2.1]
   go_wp2_with fail
   refine (shtear_any _ z s HS.out ag).mono ?_
   rintro e w' ⟨rfl, P⟩
   have HP := Lib.hid P
   clear P
   go_wp2_with fail
   refine (flag_any _ _).mono ?_
   rintro e w9 ⟨rfl, rfl⟩
   go_wp2_with fail
   go_ret2
   exact ⟨rfl, ShTo.pre HW.out.2.2 HP.out⟩
 · have HE : Hid (shAct s ⟨7, ag, bl, pa, sz, op, sq, nt, wd, wt, fr⟩ = shMake s sz) := Lib.hid rfl
   rw [HE.out]
   have HU : Hid (IntKind.u64.wrap ((shMake s sz).1.1 : Int) = ((shMake s sz).1.1 : Int)) := Lib.hid (make_u64 HS.out.ok sz)
   go_enter Tryz.func12, Tryz.ntmps12
   go_upto_region 1 with fail
   rw [← HW.out.1, ← HW.out.2.1]
   go_wp2_with fail
   refine (shmake_any _ z s HS.out sz).mono ?_
   rintro e w' ⟨rfl, P⟩
   have HP := Lib.hid P
   clear P
   obtain ⟨R, hR⟩ : ∃ R, R = (shMake s sz).1.1 := ⟨_, rfl⟩
   have HR := Lib.hid hR
   have hu : IntKind.u64.wrap (R : Int) = (R : Int) := by rw [hR]; exact HU.out
   rw [← hR]
   clear hR
   go_wp2_with fail
   go_ret2
   exact ⟨by have e := HR.out; subst e; rfl, ShTo.pre HW.out.2.2 HP.out⟩
 · have HE : Hid (shAct s ⟨kd, ag, bl, pa, sz, op, sq, nt, wd, wt, fr⟩ = ((0, 0), s)) := Lib.hid (by unfold shAct; simp only []; rw [if_neg (by omega), if_neg (by omega), if_neg (by omega), if_neg (by omega), if_neg (by omega), if_neg (by omega), if_neg (by omega), if_neg (by omega)])
   rw [HE.out]
   have n0 : (kd == 0) = false := by simp; omega
   have n1 : (kd == 1) = false := by simp; omega
   have n2 : (kd == 2) = false := by simp; omega
   have n3 : (kd == 3) = false := by simp; omega
   have n4 : (kd == 4) = false := by simp; omega
   have n5 : (kd == 5) = false := by simp; omega
   have n6 : (kd == 6) = false := by simp; omega
   have n7 : (kd == 7) = false := by simp; omega
   clear hk
   go_enter Tryz.func12, Tryz.ntmps12
   go_upto_region 1 with fail
   rw [← HW.out.1, ← HW.out.2.1]
   go_wp2_with fail
   go_ret2
   exact ⟨rfl, ShTo.pre HW.out.2.2 (HS.out.to (Mod.refl _ _))⟩
end Go.Proofs.YtbhocahmhmafmaaGreat
