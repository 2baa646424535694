/- Comparing a segment with itself. -/
import Derived.Test.YtodhhnljeojpaaaSeg1
import Derived.Test.YtodhhnljeojpaaaOpen
set_option linter.unusedVariables false
set_option linter.unusedSimpArgs false
namespace Go.Proofs.Ytodhhnljeojpaaa
open Go.RowKit Go.ChangeShapes Go.WideShapes Go.Deep
theorem eqSeg (s : Seg) (w : World) : (Op.equalIn 10000 24 (sv s) (sv s)).run Try.prog w = .ok true w := by
  go_simp
theorem eqSegV (x y : Operand) (s : Seg) (w : World) : ((do eqGuard .eql 24 x y (sv s) (sv s); binOp .eql 24 (sv s) (sv s)) : Sem Value).run Try.prog w = .ok (.bool true) w := by
  have h := eqSeg s w
  rw [Sem.run_bind, run_eqGuard_agg w _ _ _ _ _ _ Try.eqGuardType24, Result.andThen_ok, run_eql_struct, h]
  rfl
end Go.Proofs.Ytodhhnljeojpaaa
