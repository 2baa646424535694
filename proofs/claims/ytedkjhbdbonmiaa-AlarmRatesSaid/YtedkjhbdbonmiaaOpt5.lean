/- Package option: bytes are read. -/
import Derived.Test.YtedkjhbdbonmiaaOpt4
import Derived.Test.YtedkjhbdbonmiaaRd
set_option linter.unusedVariables false
set_option linter.unusedSimpArgs false
namespace Go.Proofs.Ytedkjhbdbonmiaa
set_option maxRecDepth 8000
attribute [local irreducible] blk wpS seqS ordS OpVal RV endS LoadV StoreV Calls
open Go.RowKit
def addL (ls : List Opt) : List Opt ⊕ Int → List Opt ⊕ Int
  | .inl l => .inl (ls ++ l)
  | .inr e => .inr e
theorem addL_addL (a b : List Opt) (x : List Opt ⊕ Int) : addL a (addL b x) = addL (a ++ b) x := by cases x <;> simp [addL]
/-- Bytes' options, or the mistake's number. -/
def pOpts : Nat → List UInt8 → List Opt ⊕ Int
  | 0, _ => .inl []
  | _ + 1, [] => .inl []
  | n + 1, k :: r => if k = 0 then (if r.all (· == 0) then .inl [] else .inr 3) else if k = 1 then addL [(1, ⟨#[]⟩)] (pOpts n r) else
    match r with
    | [] => .inr 2
    | m :: t => if t.length + 2 < m.toNat then .inr 2 else if m.toNat < 2 then .inr 3 else addL [((k.toNat : Int), strOf (t.take (m.toNat - 2)))] (pOpts n (t.drop (m.toNat - 2)))
theorem u8_ne {a b : UInt8} (h : a ≠ b) : (a.toNat : Int) ≠ (b.toNat : Int) := fun e => h (UInt8.toNat_inj.1 (by omega))
def endOf (l : List UInt8) : Int := if l.all (· == 0) then 0 else 3
/-! ### One option -/
section
variable {p : Nat} {w : World}
/-- Behind the reading of an option. -/
abbrev NextPost (p : Nat) (o : Opt) (e : Int) (st st' : Bool × ByteArray) (w : World) (x : Ending) (w' : World) : Prop := x = .returned (.tuple #[ov o, .int .i64 e]) ∧ (rdr p st').holds w' ∧ Mod (rdr p st).foot w w'
end
end Go.Proofs.Ytedkjhbdbonmiaa
