/-
  No cell of these rows narrows 'for every input' (looked for: loops, veiled, ifaces, maps, wideKeys, modest, calm, conditions, laid).
  DERIVED. THE GIVEN ROWS OF THIS SEAT. 3 by the template 'for every input the law returns true; each argument reads behind the call as it read before'; 0 by the template 'total and deterministic' (their statements: YtmcaigmpcbkfpaaTotals.lean).
  GIVEN WITH THE SEED: the statements are not yours to turn. If you find one false, say at which input.
  Laid BY PROGRAM, IN A SANDBOX (cutbox-rows.mjs): the forced cells as the released guide's own fill.sh prints them over the translation 9c4db31708e6654a… (all of the seat's roots in one cut). By AI agents, Wed Nov 11 2026. No macro, syntax, notation, axiom, sorry.
-/
import Derived.Test.YtmcaigmpcbkfpaaChecked
import GoSem.Claim
import GoSem.ClaimJoined
import GoSem.ClaimMapViews
import Derived.JoinedTies
import Derived.KernelRfl
namespace Go.Proofs.Ytmcaigmpcbkfpaa
/- THE CELL 'sum', in the pinned program and in every row, IS THE sha256 OF THE DUMP (.gsa) THAT YtmcaigmpcbkfpaaProg.lean LOADS. Nothing in Lean hashes anything: it is a label: what it is worth is what the hold of that sum in a sandbox is worth. -/
noncomputable def Try.pinned : Pinned := { name := "ytmcaigmpcbkfpaa", sum := "9c4db31708e6654afcfa324edfe360db6151c5a6d0ea8aea90d8ceead822e2d8", checked := Try.checked }
namespace Rows
def none {H : Type} : Left H := { results := [], args := [] }

/-- 'gueritelaw25.OriginQuiet': WHATEVER THE INPUT: true; the input reads as it did. -/
def originQuietSpec : ChangeSpec := { name := "originQuiet", fn := fun _ => fun
  | [d1, d2, d3, d4] => { results := [.lit (.bool true)], args := [d1, d2, d3, d4] }
  | _ => none }
def originQuietRow : OpenClaim := { program := "ytmcaigmpcbkfpaa", sum := "9c4db31708e6654afcfa324edfe360db6151c5a6d0ea8aea90d8ceead822e2d8", func := "guerite/gueritelaw25.OriginQuiet", spec := "originQuiet", inPlace := ["internal/abi.NoEscape"], unfollowed := true, recurses := true, apart := false }
def OriginQuietSaid : Prop := originQuietRow.holds Try.pinned (OpenSpec.ofChange originQuietSpec)

/-- ITS FALSE NEIGHBOUR: 'it returns false'. Refute it at one input. -/
def originQuietWrong : ChangeSpec := { name := "originQuiet", fn := fun _ => fun
  | [d1, d2, d3, d4] => { results := [.lit (.bool false)], args := [d1, d2, d3, d4] }
  | _ => none }
def OriginQuietWrongFalsely : Prop := originQuietRow.holds Try.pinned (OpenSpec.ofChange originQuietWrong)

/-- 'gueritelaw25.OriginNone': WHATEVER THE INPUT: true; the input reads as it did. -/
def originNoneSpec : ChangeSpec := { name := "originNone", fn := fun _ => fun
  | [d1, d2] => { results := [.lit (.bool true)], args := [d1, d2] }
  | _ => none }
def originNoneRow : OpenClaim := { program := "ytmcaigmpcbkfpaa", sum := "9c4db31708e6654afcfa324edfe360db6151c5a6d0ea8aea90d8ceead822e2d8", func := "guerite/gueritelaw25.OriginNone", spec := "originNone", inPlace := ["internal/abi.NoEscape"], unfollowed := true, recurses := true, apart := false }
def OriginNoneSaid : Prop := originNoneRow.holds Try.pinned (OpenSpec.ofChange originNoneSpec)

/-- ITS FALSE NEIGHBOUR: 'it returns false'. Refute it at one input. -/
def originNoneWrong : ChangeSpec := { name := "originNone", fn := fun _ => fun
  | [d1, d2] => { results := [.lit (.bool false)], args := [d1, d2] }
  | _ => none }
def OriginNoneWrongFalsely : Prop := originNoneRow.holds Try.pinned (OpenSpec.ofChange originNoneWrong)

/-- 'gueritelaw25.OriginFew': WHATEVER THE INPUT: true; the input reads as it did. -/
def originFewSpec : ChangeSpec := { name := "originFew", fn := fun _ => fun
  | [d1, d2] => { results := [.lit (.bool true)], args := [d1, d2] }
  | _ => none }
def originFewRow : OpenClaim := { program := "ytmcaigmpcbkfpaa", sum := "9c4db31708e6654afcfa324edfe360db6151c5a6d0ea8aea90d8ceead822e2d8", func := "guerite/gueritelaw25.OriginFew", spec := "originFew", inPlace := ["internal/abi.NoEscape"], unfollowed := true, recurses := true, apart := false }
def OriginFewSaid : Prop := originFewRow.holds Try.pinned (OpenSpec.ofChange originFewSpec)

/-- ITS FALSE NEIGHBOUR: 'it returns false'. Refute it at one input. -/
def originFewWrong : ChangeSpec := { name := "originFew", fn := fun _ => fun
  | [d1, d2] => { results := [.lit (.bool false)], args := [d1, d2] }
  | _ => none }
def OriginFewWrongFalsely : Prop := originFewRow.holds Try.pinned (OpenSpec.ofChange originFewWrong)

/- THE SECOND FORM. 'bulk': how many values and letters a reading holds, each counted each time it is reached (what is shared counts as often as it is met; a slice's spare places count too). A statement '..UptoSaid' is the law's where the arguments, and the package variables that the reading takes, are together of bulk at most 1048576: NARROWER than '..Said'. Prove '..Said' where nothing that the law and all that it calls make is longer than what came in: it says more and counts as full. Else prove '..UptoSaid'. A law counts once. -/
mutual
def uptoBulk {H : Type} : DataW H → Nat
  | .lit (.string bytes) => bytes.length + 1
  | .lit _ => 1
  | .nil => 1
  | .ptr d => uptoBulk d + 1
  | .slice elems spare => uptoBulkAll elems + uptoBulkAll spare + 1
  | .agg parts => uptoBulkAll parts + 1
  | .iface _ d => uptoBulk d + 1
  | .map entries => uptoBulkEntries entries + 1
  | .held _ => 1
def uptoBulkAll {H : Type} : List (DataW H) → Nat
  | [] => 0
  | d :: r => uptoBulk d + uptoBulkAll r
def uptoBulkEntries {H : Type} : List (Lit × DataW H) → Nat
  | [] => 0
  | x :: r => uptoBulkEntry x + uptoBulkEntries r
def uptoBulkEntry {H : Type} : Lit × DataW H → Nat
  | (.string bytes, d) => bytes.length + uptoBulk d + 1
  | (_, d) => uptoBulk d + 1
 end
def uptoSmall : (H : Type) → List (DataW H) → Bool := fun _ ds => decide (uptoBulkAll ds ≤ 1048576)
def OpenSpec.upto (s : _root_.Go.ChangeSpec) : _root_.Go.OpenSpec := { _root_.Go.OpenSpec.ofChange s with cond := some uptoSmall }

/-- 'gueritelaw25.OriginQuiet', WHERE WHAT IT READS IS OF BULK AT MOST 1048576: true; the input reads as it did. -/
def originQuietUptoRow : OpenClaim := { program := "ytmcaigmpcbkfpaa", sum := "9c4db31708e6654afcfa324edfe360db6151c5a6d0ea8aea90d8ceead822e2d8", func := "guerite/gueritelaw25.OriginQuiet", spec := "originQuiet", inPlace := ["internal/abi.NoEscape"], unfollowed := true, recurses := true, apart := false, narrowed := true }
def OriginQuietUptoSaid : Prop := originQuietUptoRow.holds Try.pinned (OpenSpec.upto originQuietSpec)

/-- 'gueritelaw25.OriginNone', WHERE WHAT IT READS IS OF BULK AT MOST 1048576: true; the input reads as it did. -/
def originNoneUptoRow : OpenClaim := { program := "ytmcaigmpcbkfpaa", sum := "9c4db31708e6654afcfa324edfe360db6151c5a6d0ea8aea90d8ceead822e2d8", func := "guerite/gueritelaw25.OriginNone", spec := "originNone", inPlace := ["internal/abi.NoEscape"], unfollowed := true, recurses := true, apart := false, narrowed := true }
def OriginNoneUptoSaid : Prop := originNoneUptoRow.holds Try.pinned (OpenSpec.upto originNoneSpec)

/-- 'gueritelaw25.OriginFew', WHERE WHAT IT READS IS OF BULK AT MOST 1048576: true; the input reads as it did. -/
def originFewUptoRow : OpenClaim := { program := "ytmcaigmpcbkfpaa", sum := "9c4db31708e6654afcfa324edfe360db6151c5a6d0ea8aea90d8ceead822e2d8", func := "guerite/gueritelaw25.OriginFew", spec := "originFew", inPlace := ["internal/abi.NoEscape"], unfollowed := true, recurses := true, apart := false, narrowed := true }
def OriginFewUptoSaid : Prop := originFewUptoRow.holds Try.pinned (OpenSpec.upto originFewSpec)

end Rows
end Go.Proofs.Ytmcaigmpcbkfpaa
