/- Package tcp: comparing a state with itself. -/
import Derived.Test.YtedkjhbdbonmiaaTcpAwake
import Derived.Test.YtedkjhbdbonmiaaTypes
set_option linter.unusedVariables false
set_option linter.unusedSimpArgs false
namespace Go.Proofs.Ytedkjhbdbonmiaa
open Go.RowKit Go.ChangeShapes Go.WideShapes Go.Deep
theorem eqTwo (b c : Bool) (w : World) : (Op.equalIn 9999 24 (.agg #[.bool b, .bool c]) (.agg #[.bool b, .bool c])).run Try.prog w = .ok true w := by
  have u3 := Try.underlying4
  have a3 := Try.isAgg4
  have z3 := Try.sizeOf4
  rw [show (9999 : Nat) = 9998 + 1 from rfl, Op.equalIn]
  simp only [Sem.run_bind, run_underlying Try.underlying24, Result.andThen_ok]
  simp only [Std.Legacy.Range.forIn_eq_forIn_range', Std.Legacy.Range.size, Nat.sub_zero, Nat.add_sub_cancel, Nat.div_one, List.range'_succ, List.range'_zero, List.forIn_cons, List.forIn_nil]
  go_simp
theorem eqState (a : Int) (b c : Bool) (w : World) : (Op.equalIn 10000 26 (.agg #[.int .i64 a, .bool b, .bool c]) (.agg #[.int .i64 a, .bool b, .bool c])).run Try.prog w = .ok true w := by
  have h := eqTwo b c
  go_simp
theorem neqStateV (x y : Operand) (a : Int) (b c : Bool) (w : World) : ((do eqGuard .neq 26 x y (.agg #[.int .i64 a, .bool b, .bool c]) (.agg #[.int .i64 a, .bool b, .bool c]); binOp .neq 26 (.agg #[.int .i64 a, .bool b, .bool c]) (.agg #[.int .i64 a, .bool b, .bool c])) : Sem Value).run Try.prog w = .ok (.bool false) w := by
  have h := eqState a b c w
  rw [Sem.run_bind, run_eqGuard_agg w _ _ _ _ _ _ Try.eqGuardType26, Result.andThen_ok, run_neq_struct, h]
  rfl
theorem eqStateV (x y : Operand) (a : Int) (b c : Bool) (w : World) : ((do eqGuard .eql 26 x y (.agg #[.int .i64 a, .bool b, .bool c]) (.agg #[.int .i64 a, .bool b, .bool c]); binOp .eql 26 (.agg #[.int .i64 a, .bool b, .bool c]) (.agg #[.int .i64 a, .bool b, .bool c])) : Sem Value).run Try.prog w = .ok (.bool true) w := by
  have h := eqState a b c w
  rw [Sem.run_bind, run_eqGuard_agg w _ _ _ _ _ _ Try.eqGuardType26, Result.andThen_ok, run_eql_struct, h]
  rfl
end Go.Proofs.Ytedkjhbdbonmiaa
