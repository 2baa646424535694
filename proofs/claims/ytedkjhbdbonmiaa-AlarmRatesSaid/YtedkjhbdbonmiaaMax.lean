/- The greater of two numbers, where it is known which one it is. -/
import Derived.Test.YtedkjhbdbonmiaaOwn
set_option linter.unusedVariables false
set_option linter.unusedSimpArgs false
namespace Go.Proofs.Ytedkjhbdbonmiaa
open Go.RowKit
section
variable {w0 : World} {S : List Nat} {rs : List Res} {l : List Value} {ds : List Deferred} {ty : TypeId} {pos : String} {aft : Array Edge} {gd : Option (Nat × Bool)} {dt : Option Tmp}
theorem opv_maxl {x y : Operand} {a b : Int} {ts : Array TypeId} (hx : opnd l x = some (.int .i64 a)) (hy : opnd l y = some (.int .i64 b)) (h : b ≤ a) :
    OpVal Try.prog w0 S rs l ds ⟨dt, .call { callee := .builtin .max, args := #[x, y], argTypes := ts }, ty, pos, aft, gd⟩ (.int .i64 a) := fun w _ => by
  have hm : (Builtin.max_ ts ty #[.int .i64 a, .int .i64 b]).run Try.prog w = .ok (.int .i64 a) w := by
    simp [Builtin.max_, Builtin.max2]
    intro; omega
  simp only [execOp, resolve, invoke, builtin, Sem.run_bind, Sem.run_pure, Result.andThen_ok, List.map_toArray, List.map_cons, List.map_nil, opnd_eval hx, opnd_eval hy, hm]
theorem opv_min8 {x y : Operand} {a b : Int} {ts : Array TypeId} (hx : opnd l x = some (.int .i64 a)) (hy : opnd l y = some (.int .i64 b)) {c : Int} (h : c = if b ≤ a then b else a) :
    OpVal Try.prog w0 S rs l ds ⟨dt, .call { callee := .builtin .min, args := #[x, y], argTypes := ts }, ty, pos, aft, gd⟩ (.int .i64 c) := fun w _ => by
  have hm : (Builtin.min_ ts ty #[.int .i64 a, .int .i64 b]).run Try.prog w = .ok (.int .i64 c) w := by
    subst h
    simp [Builtin.min_, Builtin.min2]
    split <;> split <;> (first | rfl | omega | (have : a = b := by omega
                                                subst this; rfl))
  simp only [execOp, resolve, invoke, builtin, Sem.run_bind, Sem.run_pure, Result.andThen_ok, List.map_toArray, List.map_cons, List.map_nil, opnd_eval hx, opnd_eval hy, hm]
end
end Go.Proofs.Ytedkjhbdbonmiaa
