/- Package option: Parse. -/
import Derived.Test.YtedkjhbdbonmiaaOpt5
set_option linter.unusedVariables false
set_option linter.unusedSimpArgs false
namespace Go.Proofs.Ytedkjhbdbonmiaa
set_option maxRecDepth 8000
attribute [local irreducible] blk wpS seqS ordS OpVal RV endS LoadV StoreV Calls
open Go.RowKit
theorem addL_nil (x : List Opt ⊕ Int) : addL [] x = x := by cases x <;> rfl
theorem pOpts_nil (f : Nat) : pOpts f [] = .inl [] := by cases f <;> rfl
theorem pOpts_cons (n : Nat) (k : UInt8) (r : List UInt8) : pOpts (n + 1) (k :: r) = if k = 0 then (if r.all (· == 0) then .inl [] else .inr 3) else if k = 1 then addL [(1, ⟨#[]⟩)] (pOpts n r) else
    match r with
    | [] => .inr 2
    | m :: t => if t.length + 2 < m.toNat then .inr 2 else if m.toNat < 2 then .inr 3 else addL [((k.toNat : Int), strOf (t.take (m.toNat - 2)))] (pOpts n (t.drop (m.toNat - 2))) := by
  cases r <;> simp only [pOpts]
/-- Bytes' options, or the mistake's number. -/
def optParse (l : List UInt8) : List Opt ⊕ Int := if 40 < l.length then .inr 5 else if l.length % 4 = 0 then pOpts l.length l else .inr 3
end Go.Proofs.Ytedkjhbdbonmiaa
