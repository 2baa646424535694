/-
  No cell of these rows narrows 'for every input' (looked for: loops, veiled, ifaces, maps, wideKeys, modest, calm, conditions, laid).
  DERIVED. THE GIVEN ROWS OF THIS SEAT. 9 by the template 'for every input the law returns true; each argument reads behind the call as it read before'; 0 by the template 'total and deterministic' (their statements: YtbcebihjehneaaaTotals.lean).
  GIVEN WITH THE SEED: the statements are not yours to turn. If you find one false, say at which input.
  Laid BY PROGRAM, IN A SANDBOX (cutbox-rows.mjs): the forced cells as the released guide's own fill.sh prints them over the translation 07888d3bb896822e… (all of the seat's roots in one cut). By AI agents, Wed Nov 11 2026. No macro, syntax, notation, axiom, sorry.
-/
import Derived.Test.YtbcebihjehneaaaChecked
import GoSem.Claim
import GoSem.ClaimJoined
import GoSem.ClaimMapViews
import Derived.JoinedTies
import Derived.KernelRfl
namespace Go.Proofs.Ytbcebihjehneaaa
/- THE CELL 'sum', in the pinned program and in every row, IS THE sha256 OF THE DUMP (.gsa) THAT YtbcebihjehneaaaProg.lean LOADS. Nothing in Lean hashes anything: it is a label: what it is worth is what the hold of that sum in a sandbox is worth. -/
noncomputable def Try.pinned : Pinned := { name := "ytbcebihjehneaaa", sum := "07888d3bb896822e3b50f7d28b481ac6fe4fb5d3565c9db6606a197fcbb525fc", checked := Try.checked }
namespace Rows
def none {H : Type} : Left H := { results := [], args := [] }

/-- 'gueritelaw02.SumTurns': WHATEVER THE INPUT: true; the input reads as it did. -/
def sumTurnsSpec : ChangeSpec := { name := "sumTurns", fn := fun _ => fun
  | [d1, d2] => { results := [.lit (.bool true)], args := [d1, d2] }
  | _ => none }
def sumTurnsRow : OpenClaim := { program := "ytbcebihjehneaaa", sum := "07888d3bb896822e3b50f7d28b481ac6fe4fb5d3565c9db6606a197fcbb525fc", func := "guerite/gueritelaw02.SumTurns", spec := "sumTurns", unfollowed := true, recurses := true, apart := false }
def SumTurnsSaid : Prop := sumTurnsRow.holds Try.pinned (OpenSpec.ofChange sumTurnsSpec)

/-- ITS FALSE NEIGHBOUR: 'it returns false'. Refute it at one input. -/
def sumTurnsWrong : ChangeSpec := { name := "sumTurns", fn := fun _ => fun
  | [d1, d2] => { results := [.lit (.bool false)], args := [d1, d2] }
  | _ => none }
def SumTurnsWrongFalsely : Prop := sumTurnsRow.holds Try.pinned (OpenSpec.ofChange sumTurnsWrong)

/-- 'gueritelaw02.SumUpdates': WHATEVER THE INPUT: true; the input reads as it did. -/
def sumUpdatesSpec : ChangeSpec := { name := "sumUpdates", fn := fun _ => fun
  | [d1, d2, d3, d4, d5, d6] => { results := [.lit (.bool true)], args := [d1, d2, d3, d4, d5, d6] }
  | _ => none }
def sumUpdatesRow : OpenClaim := { program := "ytbcebihjehneaaa", sum := "07888d3bb896822e3b50f7d28b481ac6fe4fb5d3565c9db6606a197fcbb525fc", func := "guerite/gueritelaw02.SumUpdates", spec := "sumUpdates", unfollowed := true, recurses := true, apart := false }
def SumUpdatesSaid : Prop := sumUpdatesRow.holds Try.pinned (OpenSpec.ofChange sumUpdatesSpec)

/-- ITS FALSE NEIGHBOUR: 'it returns false'. Refute it at one input. -/
def sumUpdatesWrong : ChangeSpec := { name := "sumUpdates", fn := fun _ => fun
  | [d1, d2, d3, d4, d5, d6] => { results := [.lit (.bool false)], args := [d1, d2, d3, d4, d5, d6] }
  | _ => none }
def SumUpdatesWrongFalsely : Prop := sumUpdatesRow.holds Try.pinned (OpenSpec.ofChange sumUpdatesWrong)

/-- 'gueritelaw01.CursorWrites': WHATEVER THE INPUT: true; the input reads as it did. -/
def cursorWritesSpec : ChangeSpec := { name := "cursorWrites", fn := fun _ => fun
  | [d] => { results := [.lit (.bool true)], args := [d] }
  | _ => none }
def cursorWritesRow : OpenClaim := { program := "ytbcebihjehneaaa", sum := "07888d3bb896822e3b50f7d28b481ac6fe4fb5d3565c9db6606a197fcbb525fc", func := "guerite/gueritelaw01.CursorWrites", spec := "cursorWrites", inPlace := ["internal/abi.NoEscape"], apart := false }
def CursorWritesSaid : Prop := cursorWritesRow.holds Try.pinned (OpenSpec.ofChange cursorWritesSpec)

/-- ITS FALSE NEIGHBOUR: 'it returns false'. Refute it at one input. -/
def cursorWritesWrong : ChangeSpec := { name := "cursorWrites", fn := fun _ => fun
  | [d] => { results := [.lit (.bool false)], args := [d] }
  | _ => none }
def CursorWritesWrongFalsely : Prop := cursorWritesRow.holds Try.pinned (OpenSpec.ofChange cursorWritesWrong)

/-- 'gueritelaw01.CursorReads': WHATEVER THE INPUT: true; the input reads as it did. -/
def cursorReadsSpec : ChangeSpec := { name := "cursorReads", fn := fun _ => fun
  | [d1, d2] => { results := [.lit (.bool true)], args := [d1, d2] }
  | _ => none }
def cursorReadsRow : OpenClaim := { program := "ytbcebihjehneaaa", sum := "07888d3bb896822e3b50f7d28b481ac6fe4fb5d3565c9db6606a197fcbb525fc", func := "guerite/gueritelaw01.CursorReads", spec := "cursorReads", inPlace := ["internal/abi.NoEscape"], apart := false }
def CursorReadsSaid : Prop := cursorReadsRow.holds Try.pinned (OpenSpec.ofChange cursorReadsSpec)

/-- ITS FALSE NEIGHBOUR: 'it returns false'. Refute it at one input. -/
def cursorReadsWrong : ChangeSpec := { name := "cursorReads", fn := fun _ => fun
  | [d1, d2] => { results := [.lit (.bool false)], args := [d1, d2] }
  | _ => none }
def CursorReadsWrongFalsely : Prop := cursorReadsRow.holds Try.pinned (OpenSpec.ofChange cursorReadsWrong)

/-- 'gueritelaw01.CursorFails': WHATEVER THE INPUT: true; the input reads as it did. -/
def cursorFailsSpec : ChangeSpec := { name := "cursorFails", fn := fun _ => fun
  | [d1, d2, d3] => { results := [.lit (.bool true)], args := [d1, d2, d3] }
  | _ => none }
def cursorFailsRow : OpenClaim := { program := "ytbcebihjehneaaa", sum := "07888d3bb896822e3b50f7d28b481ac6fe4fb5d3565c9db6606a197fcbb525fc", func := "guerite/gueritelaw01.CursorFails", spec := "cursorFails", inPlace := ["internal/abi.NoEscape"], apart := false }
def CursorFailsSaid : Prop := cursorFailsRow.holds Try.pinned (OpenSpec.ofChange cursorFailsSpec)

/-- ITS FALSE NEIGHBOUR: 'it returns false'. Refute it at one input. -/
def cursorFailsWrong : ChangeSpec := { name := "cursorFails", fn := fun _ => fun
  | [d1, d2, d3] => { results := [.lit (.bool false)], args := [d1, d2, d3] }
  | _ => none }
def CursorFailsWrongFalsely : Prop := cursorFailsRow.holds Try.pinned (OpenSpec.ofChange cursorFailsWrong)

/-- 'gueritelaw02.SumOf': WHATEVER THE INPUT: true; the input reads as it did. -/
def sumOfSpec : ChangeSpec := { name := "sumOf", fn := fun _ => fun
  | [d1, d2, d3, d4, d5, d6] => { results := [.lit (.bool true)], args := [d1, d2, d3, d4, d5, d6] }
  | _ => none }
def sumOfRow : OpenClaim := { program := "ytbcebihjehneaaa", sum := "07888d3bb896822e3b50f7d28b481ac6fe4fb5d3565c9db6606a197fcbb525fc", func := "guerite/gueritelaw02.SumOf", spec := "sumOf", inPlace := ["internal/abi.NoEscape"], unfollowed := true, recurses := true, apart := false }
def SumOfSaid : Prop := sumOfRow.holds Try.pinned (OpenSpec.ofChange sumOfSpec)

/-- ITS FALSE NEIGHBOUR: 'it returns false'. Refute it at one input. -/
def sumOfWrong : ChangeSpec := { name := "sumOf", fn := fun _ => fun
  | [d1, d2, d3, d4, d5, d6] => { results := [.lit (.bool false)], args := [d1, d2, d3, d4, d5, d6] }
  | _ => none }
def SumOfWrongFalsely : Prop := sumOfRow.holds Try.pinned (OpenSpec.ofChange sumOfWrong)

/-- 'gueritelaw01.CursorEnds': WHATEVER THE INPUT: true; the input reads as it did. -/
def cursorEndsSpec : ChangeSpec := { name := "cursorEnds", fn := fun _ => fun
  | [d1, d2] => { results := [.lit (.bool true)], args := [d1, d2] }
  | _ => none }
def cursorEndsRow : OpenClaim := { program := "ytbcebihjehneaaa", sum := "07888d3bb896822e3b50f7d28b481ac6fe4fb5d3565c9db6606a197fcbb525fc", func := "guerite/gueritelaw01.CursorEnds", spec := "cursorEnds", inPlace := ["internal/abi.NoEscape"], apart := false }
def CursorEndsSaid : Prop := cursorEndsRow.holds Try.pinned (OpenSpec.ofChange cursorEndsSpec)

/-- ITS FALSE NEIGHBOUR: 'it returns false'. Refute it at one input. -/
def cursorEndsWrong : ChangeSpec := { name := "cursorEnds", fn := fun _ => fun
  | [d1, d2] => { results := [.lit (.bool false)], args := [d1, d2] }
  | _ => none }
def CursorEndsWrongFalsely : Prop := cursorEndsRow.holds Try.pinned (OpenSpec.ofChange cursorEndsWrong)

/-- 'gueritelaw02.SumPuts': WHATEVER THE INPUT: true; the input reads as it did. -/
def sumPutsSpec : ChangeSpec := { name := "sumPuts", fn := fun _ => fun
  | [d1, d2] => { results := [.lit (.bool true)], args := [d1, d2] }
  | _ => none }
def sumPutsRow : OpenClaim := { program := "ytbcebihjehneaaa", sum := "07888d3bb896822e3b50f7d28b481ac6fe4fb5d3565c9db6606a197fcbb525fc", func := "guerite/gueritelaw02.SumPuts", spec := "sumPuts", inPlace := ["internal/abi.NoEscape"], unfollowed := true, recurses := true, apart := false }
def SumPutsSaid : Prop := sumPutsRow.holds Try.pinned (OpenSpec.ofChange sumPutsSpec)

/-- ITS FALSE NEIGHBOUR: 'it returns false'. Refute it at one input. -/
def sumPutsWrong : ChangeSpec := { name := "sumPuts", fn := fun _ => fun
  | [d1, d2] => { results := [.lit (.bool false)], args := [d1, d2] }
  | _ => none }
def SumPutsWrongFalsely : Prop := sumPutsRow.holds Try.pinned (OpenSpec.ofChange sumPutsWrong)

/-- 'gueritelaw01.CursorBack': WHATEVER THE INPUT: true; the input reads as it did. -/
def cursorBackSpec : ChangeSpec := { name := "cursorBack", fn := fun _ => fun
  | [d1, d2, d3, d4] => { results := [.lit (.bool true)], args := [d1, d2, d3, d4] }
  | _ => none }
def cursorBackRow : OpenClaim := { program := "ytbcebihjehneaaa", sum := "07888d3bb896822e3b50f7d28b481ac6fe4fb5d3565c9db6606a197fcbb525fc", func := "guerite/gueritelaw01.CursorBack", spec := "cursorBack", inPlace := ["internal/abi.NoEscape"], apart := false }
def CursorBackSaid : Prop := cursorBackRow.holds Try.pinned (OpenSpec.ofChange cursorBackSpec)

/-- ITS FALSE NEIGHBOUR: 'it returns false'. Refute it at one input. -/
def cursorBackWrong : ChangeSpec := { name := "cursorBack", fn := fun _ => fun
  | [d1, d2, d3, d4] => { results := [.lit (.bool false)], args := [d1, d2, d3, d4] }
  | _ => none }
def CursorBackWrongFalsely : Prop := cursorBackRow.holds Try.pinned (OpenSpec.ofChange cursorBackWrong)

/- THE SECOND FORM. 'bulk': how many values and letters a reading holds, each counted each time it is reached (what is shared counts as often as it is met; a slice's spare places count too). A statement '..UptoSaid' is the law's where the arguments, and the package variables that the reading takes, are together of bulk at most 1048576: NARROWER than '..Said'. Prove '..Said' where nothing that the law and all that it calls make is longer than what came in: it says more and counts as full. Else prove '..UptoSaid'. A law counts once. -/
mutual
def uptoBulk {H : Type} : DataW H → Nat
  | .lit (.string bytes) => bytes.length + 1
  | .lit _ => 1
  | .nil => 1
  | .ptr d => uptoBulk d + 1
  | .slice elems spare => uptoBulkAll elems + uptoBulkAll spare + 1
  | .agg parts => uptoBulkAll parts + 1
  | .iface _ d => uptoBulk d + 1
  | .map entries => uptoBulkEntries entries + 1
  | .held _ => 1
def uptoBulkAll {H : Type} : List (DataW H) → Nat
  | [] => 0
  | d :: r => uptoBulk d + uptoBulkAll r
def uptoBulkEntries {H : Type} : List (Lit × DataW H) → Nat
  | [] => 0
  | x :: r => uptoBulkEntry x + uptoBulkEntries r
def uptoBulkEntry {H : Type} : Lit × DataW H → Nat
  | (.string bytes, d) => bytes.length + uptoBulk d + 1
  | (_, d) => uptoBulk d + 1
 end
def uptoSmall : (H : Type) → List (DataW H) → Bool := fun _ ds => decide (uptoBulkAll ds ≤ 1048576)
def OpenSpec.upto (s : _root_.Go.ChangeSpec) : _root_.Go.OpenSpec := { _root_.Go.OpenSpec.ofChange s with cond := some uptoSmall }

/-- 'gueritelaw02.SumTurns', WHERE WHAT IT READS IS OF BULK AT MOST 1048576: true; the input reads as it did. -/
def sumTurnsUptoRow : OpenClaim := { program := "ytbcebihjehneaaa", sum := "07888d3bb896822e3b50f7d28b481ac6fe4fb5d3565c9db6606a197fcbb525fc", func := "guerite/gueritelaw02.SumTurns", spec := "sumTurns", unfollowed := true, recurses := true, apart := false, narrowed := true }
def SumTurnsUptoSaid : Prop := sumTurnsUptoRow.holds Try.pinned (OpenSpec.upto sumTurnsSpec)

/-- 'gueritelaw02.SumUpdates', WHERE WHAT IT READS IS OF BULK AT MOST 1048576: true; the input reads as it did. -/
def sumUpdatesUptoRow : OpenClaim := { program := "ytbcebihjehneaaa", sum := "07888d3bb896822e3b50f7d28b481ac6fe4fb5d3565c9db6606a197fcbb525fc", func := "guerite/gueritelaw02.SumUpdates", spec := "sumUpdates", unfollowed := true, recurses := true, apart := false, narrowed := true }
def SumUpdatesUptoSaid : Prop := sumUpdatesUptoRow.holds Try.pinned (OpenSpec.upto sumUpdatesSpec)

/-- 'gueritelaw01.CursorWrites', WHERE WHAT IT READS IS OF BULK AT MOST 1048576: true; the input reads as it did. -/
def cursorWritesUptoRow : OpenClaim := { program := "ytbcebihjehneaaa", sum := "07888d3bb896822e3b50f7d28b481ac6fe4fb5d3565c9db6606a197fcbb525fc", func := "guerite/gueritelaw01.CursorWrites", spec := "cursorWrites", inPlace := ["internal/abi.NoEscape"], apart := false, narrowed := true }
def CursorWritesUptoSaid : Prop := cursorWritesUptoRow.holds Try.pinned (OpenSpec.upto cursorWritesSpec)

/-- 'gueritelaw01.CursorReads', WHERE WHAT IT READS IS OF BULK AT MOST 1048576: true; the input reads as it did. -/
def cursorReadsUptoRow : OpenClaim := { program := "ytbcebihjehneaaa", sum := "07888d3bb896822e3b50f7d28b481ac6fe4fb5d3565c9db6606a197fcbb525fc", func := "guerite/gueritelaw01.CursorReads", spec := "cursorReads", inPlace := ["internal/abi.NoEscape"], apart := false, narrowed := true }
def CursorReadsUptoSaid : Prop := cursorReadsUptoRow.holds Try.pinned (OpenSpec.upto cursorReadsSpec)

/-- 'gueritelaw01.CursorFails', WHERE WHAT IT READS IS OF BULK AT MOST 1048576: true; the input reads as it did. -/
def cursorFailsUptoRow : OpenClaim := { program := "ytbcebihjehneaaa", sum := "07888d3bb896822e3b50f7d28b481ac6fe4fb5d3565c9db6606a197fcbb525fc", func := "guerite/gueritelaw01.CursorFails", spec := "cursorFails", inPlace := ["internal/abi.NoEscape"], apart := false, narrowed := true }
def CursorFailsUptoSaid : Prop := cursorFailsUptoRow.holds Try.pinned (OpenSpec.upto cursorFailsSpec)

/-- 'gueritelaw02.SumOf', WHERE WHAT IT READS IS OF BULK AT MOST 1048576: true; the input reads as it did. -/
def sumOfUptoRow : OpenClaim := { program := "ytbcebihjehneaaa", sum := "07888d3bb896822e3b50f7d28b481ac6fe4fb5d3565c9db6606a197fcbb525fc", func := "guerite/gueritelaw02.SumOf", spec := "sumOf", inPlace := ["internal/abi.NoEscape"], unfollowed := true, recurses := true, apart := false, narrowed := true }
def SumOfUptoSaid : Prop := sumOfUptoRow.holds Try.pinned (OpenSpec.upto sumOfSpec)

/-- 'gueritelaw01.CursorEnds', WHERE WHAT IT READS IS OF BULK AT MOST 1048576: true; the input reads as it did. -/
def cursorEndsUptoRow : OpenClaim := { program := "ytbcebihjehneaaa", sum := "07888d3bb896822e3b50f7d28b481ac6fe4fb5d3565c9db6606a197fcbb525fc", func := "guerite/gueritelaw01.CursorEnds", spec := "cursorEnds", inPlace := ["internal/abi.NoEscape"], apart := false, narrowed := true }
def CursorEndsUptoSaid : Prop := cursorEndsUptoRow.holds Try.pinned (OpenSpec.upto cursorEndsSpec)

/-- 'gueritelaw02.SumPuts', WHERE WHAT IT READS IS OF BULK AT MOST 1048576: true; the input reads as it did. -/
def sumPutsUptoRow : OpenClaim := { program := "ytbcebihjehneaaa", sum := "07888d3bb896822e3b50f7d28b481ac6fe4fb5d3565c9db6606a197fcbb525fc", func := "guerite/gueritelaw02.SumPuts", spec := "sumPuts", inPlace := ["internal/abi.NoEscape"], unfollowed := true, recurses := true, apart := false, narrowed := true }
def SumPutsUptoSaid : Prop := sumPutsUptoRow.holds Try.pinned (OpenSpec.upto sumPutsSpec)

/-- 'gueritelaw01.CursorBack', WHERE WHAT IT READS IS OF BULK AT MOST 1048576: true; the input reads as it did. -/
def cursorBackUptoRow : OpenClaim := { program := "ytbcebihjehneaaa", sum := "07888d3bb896822e3b50f7d28b481ac6fe4fb5d3565c9db6606a197fcbb525fc", func := "guerite/gueritelaw01.CursorBack", spec := "cursorBack", inPlace := ["internal/abi.NoEscape"], apart := false, narrowed := true }
def CursorBackUptoSaid : Prop := cursorBackUptoRow.holds Try.pinned (OpenSpec.upto cursorBackSpec)

end Rows
end Go.Proofs.Ytbcebihjehneaaa
