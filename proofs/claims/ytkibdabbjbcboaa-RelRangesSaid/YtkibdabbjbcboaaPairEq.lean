/-
  Two pairs held against one another. Over any program. No condition.
-/
import Derived.Test.YtkibdabbjbcboaaLib
import Derived.ChangeKeysEq
import Derived.Laws.StructEq
namespace Go.Ren
set_option linter.unusedVariables false
open Go.RowKit in
theorem run_neq_pair {P : Program} {T e : TypeId} (hT : P.underlying T = some (.array 2 e)) (he : P.underlying e = some (.int .i64)) (hs : (P.info? e).map (·.size) = some 1) (p q r s : Int) (w : World) :
    (binOp .neq T (.agg #[.int .i64 p, .int .i64 q]) (.agg #[.int .i64 r, .int .i64 s])).run P w = .ok (.bool (!(p == r && q == s))) w := by
  obtain ⟨i, hi, hz⟩ := Option.map_eq_some_iff.1 hs
  have hc : P.cellsOf e = 1 := by simp [Program.cellsOf, hi, hz]
  have h1 : ∀ (d : Nat) (a b : Int), (Op.equalIn (d + 1) e (.int .i64 a) (.int .i64 b)).run P w = .ok (a == b) w := fun d a b => by
    simp [Op.equalIn, run_underlying he]
  have h2 : List.range 2 = [0, 1] := rfl
  rw [run_neq_struct, show (10000 : Nat) = 9999 + 1 from rfl, run_equalIn_array w 9999 _ _ hT hi, hc, h2]
  have hp0 : ∀ (x y : Int), (part e #[.int .i64 x, .int .i64 y] 0).run P w = .ok (.int .i64 x) w := fun x y => by simp [part, isAgg, run_underlying he]
  have hp1 : ∀ (x y : Int), (part e #[.int .i64 x, .int .i64 y] 1).run P w = .ok (.int .i64 y) w := fun x y => by simp [part, isAgg, run_underlying he]
  simp only [Op.eqItems, Sem.run_bind, Nat.zero_mul, Nat.one_mul, hp0, Result.andThen_ok, h1 9998]
  cases hpr : (p == r)
  · simp
  · simp [hp1, h1 9998]
    cases hqs : (q == s) <;> simp_all
end Go.Ren
