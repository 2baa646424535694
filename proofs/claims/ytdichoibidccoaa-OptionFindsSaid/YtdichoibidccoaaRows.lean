/-
  No cell of these rows narrows 'for every input' (looked for: loops, veiled, ifaces, maps, wideKeys, modest, calm, conditions, laid).
  DERIVED. THE GIVEN ROWS OF THIS SEAT. 9 by the template 'for every input the law returns true; each argument reads behind the call as it read before'; 0 by the template 'total and deterministic' (their statements: YtdichoibidccoaaTotals.lean).
  GIVEN WITH THE SEED: the statements are not yours to turn. If you find one false, say at which input.
  Laid BY PROGRAM, IN A SANDBOX (cutbox-rows.mjs): the forced cells as the released guide's own fill.sh prints them over the translation aa99318eb3c2ee66… (all of the seat's roots in one cut). By AI agents, Wed Nov 11 2026. No macro, syntax, notation, axiom, sorry.
-/
import Derived.Test.YtdichoibidccoaaChecked
import GoSem.Claim
import GoSem.ClaimJoined
import GoSem.ClaimMapViews
import Derived.JoinedTies
import Derived.KernelRfl
namespace Go.Proofs.Ytdichoibidccoaa
/- THE CELL 'sum', in the pinned program and in every row, IS THE sha256 OF THE DUMP (.gsa) THAT YtdichoibidccoaaProg.lean LOADS. Nothing in Lean hashes anything: it is a label: what it is worth is what the hold of that sum in a sandbox is worth. -/
noncomputable def Try.pinned : Pinned := { name := "ytdichoibidccoaa", sum := "aa99318eb3c2ee6676f6a2503422e8ba405ab973452290852baa08a97cb9cf98", checked := Try.checked }
namespace Rows
def none {H : Type} : Left H := { results := [], args := [] }

/-- 'gueritelaw04.OptionEncodes': WHATEVER THE INPUT: true; the input reads as it did. -/
def optionEncodesSpec : ChangeSpec := { name := "optionEncodes", fn := fun _ => fun
  | [d] => { results := [.lit (.bool true)], args := [d] }
  | _ => none }
def optionEncodesRow : OpenClaim := { program := "ytdichoibidccoaa", sum := "aa99318eb3c2ee6676f6a2503422e8ba405ab973452290852baa08a97cb9cf98", func := "guerite/gueritelaw04.OptionEncodes", spec := "optionEncodes", inPlace := ["internal/abi.NoEscape"], unfollowed := true, recurses := true, apart := false }
def OptionEncodesSaid : Prop := optionEncodesRow.holds Try.pinned (OpenSpec.ofChange optionEncodesSpec)

/-- ITS FALSE NEIGHBOUR: 'it returns false'. Refute it at one input. -/
def optionEncodesWrong : ChangeSpec := { name := "optionEncodes", fn := fun _ => fun
  | [d] => { results := [.lit (.bool false)], args := [d] }
  | _ => none }
def OptionEncodesWrongFalsely : Prop := optionEncodesRow.holds Try.pinned (OpenSpec.ofChange optionEncodesWrong)

/-- 'gueritelaw04.OptionFinds': WHATEVER THE INPUT: true; the input reads as it did. -/
def optionFindsSpec : ChangeSpec := { name := "optionFinds", fn := fun _ => fun
  | [d1, d2, d3] => { results := [.lit (.bool true)], args := [d1, d2, d3] }
  | _ => none }
def optionFindsRow : OpenClaim := { program := "ytdichoibidccoaa", sum := "aa99318eb3c2ee6676f6a2503422e8ba405ab973452290852baa08a97cb9cf98", func := "guerite/gueritelaw04.OptionFinds", spec := "optionFinds", inPlace := ["internal/abi.NoEscape"], unfollowed := true, recurses := true, apart := false }
def OptionFindsSaid : Prop := optionFindsRow.holds Try.pinned (OpenSpec.ofChange optionFindsSpec)

/-- ITS FALSE NEIGHBOUR: 'it returns false'. Refute it at one input. -/
def optionFindsWrong : ChangeSpec := { name := "optionFinds", fn := fun _ => fun
  | [d1, d2, d3] => { results := [.lit (.bool false)], args := [d1, d2, d3] }
  | _ => none }
def OptionFindsWrongFalsely : Prop := optionFindsRow.holds Try.pinned (OpenSpec.ofChange optionFindsWrong)

/-- 'gueritelaw04.OptionParses': WHATEVER THE INPUT: true; the input reads as it did. -/
def optionParsesSpec : ChangeSpec := { name := "optionParses", fn := fun _ => fun
  | [d] => { results := [.lit (.bool true)], args := [d] }
  | _ => none }
def optionParsesRow : OpenClaim := { program := "ytdichoibidccoaa", sum := "aa99318eb3c2ee6676f6a2503422e8ba405ab973452290852baa08a97cb9cf98", func := "guerite/gueritelaw04.OptionParses", spec := "optionParses", inPlace := ["internal/abi.NoEscape"], unfollowed := true, recurses := true, apart := false }
def OptionParsesSaid : Prop := optionParsesRow.holds Try.pinned (OpenSpec.ofChange optionParsesSpec)

/-- ITS FALSE NEIGHBOUR: 'it returns false'. Refute it at one input. -/
def optionParsesWrong : ChangeSpec := { name := "optionParses", fn := fun _ => fun
  | [d] => { results := [.lit (.bool false)], args := [d] }
  | _ => none }
def OptionParsesWrongFalsely : Prop := optionParsesRow.holds Try.pinned (OpenSpec.ofChange optionParsesWrong)

/-- 'gueritelaw04.OptionBack': WHATEVER THE INPUT: true; the input reads as it did. -/
def optionBackSpec : ChangeSpec := { name := "optionBack", fn := fun _ => fun
  | [d] => { results := [.lit (.bool true)], args := [d] }
  | _ => none }
def optionBackRow : OpenClaim := { program := "ytdichoibidccoaa", sum := "aa99318eb3c2ee6676f6a2503422e8ba405ab973452290852baa08a97cb9cf98", func := "guerite/gueritelaw04.OptionBack", spec := "optionBack", inPlace := ["internal/abi.NoEscape"], unfollowed := true, recurses := true, apart := false }
def OptionBackSaid : Prop := optionBackRow.holds Try.pinned (OpenSpec.ofChange optionBackSpec)

/-- ITS FALSE NEIGHBOUR: 'it returns false'. Refute it at one input. -/
def optionBackWrong : ChangeSpec := { name := "optionBack", fn := fun _ => fun
  | [d] => { results := [.lit (.bool false)], args := [d] }
  | _ => none }
def OptionBackWrongFalsely : Prop := optionBackRow.holds Try.pinned (OpenSpec.ofChange optionBackWrong)

/-- 'gueritelaw05.HeaderParses': WHATEVER THE INPUT: true; the input reads as it did. -/
def headerParsesSpec : ChangeSpec := { name := "headerParses", fn := fun _ => fun
  | [d] => { results := [.lit (.bool true)], args := [d] }
  | _ => none }
def headerParsesRow : OpenClaim := { program := "ytdichoibidccoaa", sum := "aa99318eb3c2ee6676f6a2503422e8ba405ab973452290852baa08a97cb9cf98", func := "guerite/gueritelaw05.HeaderParses", spec := "headerParses", inPlace := ["internal/abi.NoEscape"], unfollowed := true, recurses := true, apart := false }
def HeaderParsesSaid : Prop := headerParsesRow.holds Try.pinned (OpenSpec.ofChange headerParsesSpec)

/-- ITS FALSE NEIGHBOUR: 'it returns false'. Refute it at one input. -/
def headerParsesWrong : ChangeSpec := { name := "headerParses", fn := fun _ => fun
  | [d] => { results := [.lit (.bool false)], args := [d] }
  | _ => none }
def HeaderParsesWrongFalsely : Prop := headerParsesRow.holds Try.pinned (OpenSpec.ofChange headerParsesWrong)

/-- 'gueritelaw05.HeaderBent': WHATEVER THE INPUT: true; the input reads as it did. -/
def headerBentSpec : ChangeSpec := { name := "headerBent", fn := fun _ => fun
  | [d1, d2] => { results := [.lit (.bool true)], args := [d1, d2] }
  | _ => none }
def headerBentRow : OpenClaim := { program := "ytdichoibidccoaa", sum := "aa99318eb3c2ee6676f6a2503422e8ba405ab973452290852baa08a97cb9cf98", func := "guerite/gueritelaw05.HeaderBent", spec := "headerBent", inPlace := ["internal/abi.NoEscape"], unfollowed := true, recurses := true, apart := false }
def HeaderBentSaid : Prop := headerBentRow.holds Try.pinned (OpenSpec.ofChange headerBentSpec)

/-- ITS FALSE NEIGHBOUR: 'it returns false'. Refute it at one input. -/
def headerBentWrong : ChangeSpec := { name := "headerBent", fn := fun _ => fun
  | [d1, d2] => { results := [.lit (.bool false)], args := [d1, d2] }
  | _ => none }
def HeaderBentWrongFalsely : Prop := headerBentRow.holds Try.pinned (OpenSpec.ofChange headerBentWrong)

/-- 'gueritelaw05.HeaderEncodes': WHATEVER THE INPUT: true; the input reads as it did. -/
def headerEncodesSpec : ChangeSpec := { name := "headerEncodes", fn := fun _ => fun
  | [d] => { results := [.lit (.bool true)], args := [d] }
  | _ => none }
def headerEncodesRow : OpenClaim := { program := "ytdichoibidccoaa", sum := "aa99318eb3c2ee6676f6a2503422e8ba405ab973452290852baa08a97cb9cf98", func := "guerite/gueritelaw05.HeaderEncodes", spec := "headerEncodes", inPlace := ["internal/abi.NoEscape"], unfollowed := true, recurses := true, apart := false }
def HeaderEncodesSaid : Prop := headerEncodesRow.holds Try.pinned (OpenSpec.ofChange headerEncodesSpec)

/-- ITS FALSE NEIGHBOUR: 'it returns false'. Refute it at one input. -/
def headerEncodesWrong : ChangeSpec := { name := "headerEncodes", fn := fun _ => fun
  | [d] => { results := [.lit (.bool false)], args := [d] }
  | _ => none }
def HeaderEncodesWrongFalsely : Prop := headerEncodesRow.holds Try.pinned (OpenSpec.ofChange headerEncodesWrong)

/-- 'gueritelaw05.HeaderBack': WHATEVER THE INPUT: true; the input reads as it did. -/
def headerBackSpec : ChangeSpec := { name := "headerBack", fn := fun _ => fun
  | [d1, d2] => { results := [.lit (.bool true)], args := [d1, d2] }
  | _ => none }
def headerBackRow : OpenClaim := { program := "ytdichoibidccoaa", sum := "aa99318eb3c2ee6676f6a2503422e8ba405ab973452290852baa08a97cb9cf98", func := "guerite/gueritelaw05.HeaderBack", spec := "headerBack", inPlace := ["internal/abi.NoEscape"], unfollowed := true, recurses := true, apart := false }
def HeaderBackSaid : Prop := headerBackRow.holds Try.pinned (OpenSpec.ofChange headerBackSpec)

/-- ITS FALSE NEIGHBOUR: 'it returns false'. Refute it at one input. -/
def headerBackWrong : ChangeSpec := { name := "headerBack", fn := fun _ => fun
  | [d1, d2] => { results := [.lit (.bool false)], args := [d1, d2] }
  | _ => none }
def HeaderBackWrongFalsely : Prop := headerBackRow.holds Try.pinned (OpenSpec.ofChange headerBackWrong)

/-- 'gueritelaw05.HeaderLowers': WHATEVER THE INPUT: true; the input reads as it did. -/
def headerLowersSpec : ChangeSpec := { name := "headerLowers", fn := fun _ => fun
  | [d] => { results := [.lit (.bool true)], args := [d] }
  | _ => none }
def headerLowersRow : OpenClaim := { program := "ytdichoibidccoaa", sum := "aa99318eb3c2ee6676f6a2503422e8ba405ab973452290852baa08a97cb9cf98", func := "guerite/gueritelaw05.HeaderLowers", spec := "headerLowers", inPlace := ["internal/abi.NoEscape"], unfollowed := true, recurses := true, apart := false }
def HeaderLowersSaid : Prop := headerLowersRow.holds Try.pinned (OpenSpec.ofChange headerLowersSpec)

/-- ITS FALSE NEIGHBOUR: 'it returns false'. Refute it at one input. -/
def headerLowersWrong : ChangeSpec := { name := "headerLowers", fn := fun _ => fun
  | [d] => { results := [.lit (.bool false)], args := [d] }
  | _ => none }
def HeaderLowersWrongFalsely : Prop := headerLowersRow.holds Try.pinned (OpenSpec.ofChange headerLowersWrong)

/- THE SECOND FORM. 'bulk': how many values and letters a reading holds, each counted each time it is reached (what is shared counts as often as it is met; a slice's spare places count too). A statement '..UptoSaid' is the law's where the arguments, and the package variables that the reading takes, are together of bulk at most 1048576: NARROWER than '..Said'. Prove '..Said' where nothing that the law and all that it calls make is longer than what came in: it says more and counts as full. Else prove '..UptoSaid'. A law counts once. -/
mutual
def uptoBulk {H : Type} : DataW H → Nat
  | .lit (.string bytes) => bytes.length + 1
  | .lit _ => 1
  | .nil => 1
  | .ptr d => uptoBulk d + 1
  | .slice elems spare => uptoBulkAll elems + uptoBulkAll spare + 1
  | .agg parts => uptoBulkAll parts + 1
  | .iface _ d => uptoBulk d + 1
  | .map entries => uptoBulkEntries entries + 1
  | .held _ => 1
def uptoBulkAll {H : Type} : List (DataW H) → Nat
  | [] => 0
  | d :: r => uptoBulk d + uptoBulkAll r
def uptoBulkEntries {H : Type} : List (Lit × DataW H) → Nat
  | [] => 0
  | x :: r => uptoBulkEntry x + uptoBulkEntries r
def uptoBulkEntry {H : Type} : Lit × DataW H → Nat
  | (.string bytes, d) => bytes.length + uptoBulk d + 1
  | (_, d) => uptoBulk d + 1
 end
def uptoSmall : (H : Type) → List (DataW H) → Bool := fun _ ds => decide (uptoBulkAll ds ≤ 1048576)
def OpenSpec.upto (s : _root_.Go.ChangeSpec) : _root_.Go.OpenSpec := { _root_.Go.OpenSpec.ofChange s with cond := some uptoSmall }

/-- 'gueritelaw04.OptionEncodes', WHERE WHAT IT READS IS OF BULK AT MOST 1048576: true; the input reads as it did. -/
def optionEncodesUptoRow : OpenClaim := { program := "ytdichoibidccoaa", sum := "aa99318eb3c2ee6676f6a2503422e8ba405ab973452290852baa08a97cb9cf98", func := "guerite/gueritelaw04.OptionEncodes", spec := "optionEncodes", inPlace := ["internal/abi.NoEscape"], unfollowed := true, recurses := true, apart := false, narrowed := true }
def OptionEncodesUptoSaid : Prop := optionEncodesUptoRow.holds Try.pinned (OpenSpec.upto optionEncodesSpec)

/-- 'gueritelaw04.OptionFinds', WHERE WHAT IT READS IS OF BULK AT MOST 1048576: true; the input reads as it did. -/
def optionFindsUptoRow : OpenClaim := { program := "ytdichoibidccoaa", sum := "aa99318eb3c2ee6676f6a2503422e8ba405ab973452290852baa08a97cb9cf98", func := "guerite/gueritelaw04.OptionFinds", spec := "optionFinds", inPlace := ["internal/abi.NoEscape"], unfollowed := true, recurses := true, apart := false, narrowed := true }
def OptionFindsUptoSaid : Prop := optionFindsUptoRow.holds Try.pinned (OpenSpec.upto optionFindsSpec)

/-- 'gueritelaw04.OptionParses', WHERE WHAT IT READS IS OF BULK AT MOST 1048576: true; the input reads as it did. -/
def optionParsesUptoRow : OpenClaim := { program := "ytdichoibidccoaa", sum := "aa99318eb3c2ee6676f6a2503422e8ba405ab973452290852baa08a97cb9cf98", func := "guerite/gueritelaw04.OptionParses", spec := "optionParses", inPlace := ["internal/abi.NoEscape"], unfollowed := true, recurses := true, apart := false, narrowed := true }
def OptionParsesUptoSaid : Prop := optionParsesUptoRow.holds Try.pinned (OpenSpec.upto optionParsesSpec)

/-- 'gueritelaw04.OptionBack', WHERE WHAT IT READS IS OF BULK AT MOST 1048576: true; the input reads as it did. -/
def optionBackUptoRow : OpenClaim := { program := "ytdichoibidccoaa", sum := "aa99318eb3c2ee6676f6a2503422e8ba405ab973452290852baa08a97cb9cf98", func := "guerite/gueritelaw04.OptionBack", spec := "optionBack", inPlace := ["internal/abi.NoEscape"], unfollowed := true, recurses := true, apart := false, narrowed := true }
def OptionBackUptoSaid : Prop := optionBackUptoRow.holds Try.pinned (OpenSpec.upto optionBackSpec)

/-- 'gueritelaw05.HeaderParses', WHERE WHAT IT READS IS OF BULK AT MOST 1048576: true; the input reads as it did. -/
def headerParsesUptoRow : OpenClaim := { program := "ytdichoibidccoaa", sum := "aa99318eb3c2ee6676f6a2503422e8ba405ab973452290852baa08a97cb9cf98", func := "guerite/gueritelaw05.HeaderParses", spec := "headerParses", inPlace := ["internal/abi.NoEscape"], unfollowed := true, recurses := true, apart := false, narrowed := true }
def HeaderParsesUptoSaid : Prop := headerParsesUptoRow.holds Try.pinned (OpenSpec.upto headerParsesSpec)

/-- 'gueritelaw05.HeaderBent', WHERE WHAT IT READS IS OF BULK AT MOST 1048576: true; the input reads as it did. -/
def headerBentUptoRow : OpenClaim := { program := "ytdichoibidccoaa", sum := "aa99318eb3c2ee6676f6a2503422e8ba405ab973452290852baa08a97cb9cf98", func := "guerite/gueritelaw05.HeaderBent", spec := "headerBent", inPlace := ["internal/abi.NoEscape"], unfollowed := true, recurses := true, apart := false, narrowed := true }
def HeaderBentUptoSaid : Prop := headerBentUptoRow.holds Try.pinned (OpenSpec.upto headerBentSpec)

/-- 'gueritelaw05.HeaderEncodes', WHERE WHAT IT READS IS OF BULK AT MOST 1048576: true; the input reads as it did. -/
def headerEncodesUptoRow : OpenClaim := { program := "ytdichoibidccoaa", sum := "aa99318eb3c2ee6676f6a2503422e8ba405ab973452290852baa08a97cb9cf98", func := "guerite/gueritelaw05.HeaderEncodes", spec := "headerEncodes", inPlace := ["internal/abi.NoEscape"], unfollowed := true, recurses := true, apart := false, narrowed := true }
def HeaderEncodesUptoSaid : Prop := headerEncodesUptoRow.holds Try.pinned (OpenSpec.upto headerEncodesSpec)

/-- 'gueritelaw05.HeaderBack', WHERE WHAT IT READS IS OF BULK AT MOST 1048576: true; the input reads as it did. -/
def headerBackUptoRow : OpenClaim := { program := "ytdichoibidccoaa", sum := "aa99318eb3c2ee6676f6a2503422e8ba405ab973452290852baa08a97cb9cf98", func := "guerite/gueritelaw05.HeaderBack", spec := "headerBack", inPlace := ["internal/abi.NoEscape"], unfollowed := true, recurses := true, apart := false, narrowed := true }
def HeaderBackUptoSaid : Prop := headerBackUptoRow.holds Try.pinned (OpenSpec.upto headerBackSpec)

/-- 'gueritelaw05.HeaderLowers', WHERE WHAT IT READS IS OF BULK AT MOST 1048576: true; the input reads as it did. -/
def headerLowersUptoRow : OpenClaim := { program := "ytdichoibidccoaa", sum := "aa99318eb3c2ee6676f6a2503422e8ba405ab973452290852baa08a97cb9cf98", func := "guerite/gueritelaw05.HeaderLowers", spec := "headerLowers", inPlace := ["internal/abi.NoEscape"], unfollowed := true, recurses := true, apart := false, narrowed := true }
def HeaderLowersUptoSaid : Prop := headerLowersUptoRow.holds Try.pinned (OpenSpec.upto headerLowersSpec)

end Rows
end Go.Proofs.Ytdichoibidccoaa
