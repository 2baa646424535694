/-
  No cell of these rows narrows 'for every input' (looked for: loops, veiled, ifaces, maps, wideKeys, modest, calm, conditions, laid).
  DERIVED. THE GIVEN ROWS OF THIS SEAT. 8 by the template 'for every input the law returns true; each argument reads behind the call as it read before'; 0 by the template 'total and deterministic' (their statements: YtodhhnljeojpaaaTotals.lean).
  GIVEN WITH THE SEED: the statements are not yours to turn. If you find one false, say at which input.
  Laid BY PROGRAM, IN A SANDBOX (cutbox-rows.mjs): the forced cells as the released guide's own fill.sh prints them over the translation d74bcea0b03fb2c0… (all of the seat's roots in one cut). By AI agents, Wed Nov 11 2026. No macro, syntax, notation, axiom, sorry.
-/
import Derived.Test.YtodhhnljeojpaaaChecked
import GoSem.Claim
import GoSem.ClaimJoined
import GoSem.ClaimMapViews
import Derived.JoinedTies
import Derived.KernelRfl
namespace Go.Proofs.Ytodhhnljeojpaaa
/- THE CELL 'sum', in the pinned program and in every row, IS THE sha256 OF THE DUMP (.gsa) THAT YtodhhnljeojpaaaProg.lean LOADS. Nothing in Lean hashes anything: it is a label: what it is worth is what the hold of that sum in a sandbox is worth. -/
noncomputable def Try.pinned : Pinned := { name := "ytodhhnljeojpaaa", sum := "d74bcea0b03fb2c0d3fa201adc8d35b0ea059986d2d9ade1317913a38bed79b9", checked := Try.checked }
namespace Rows
def none {H : Type} : Left H := { results := [], args := [] }

/-- 'gueritelaw06.SegmentPorts': WHATEVER THE INPUT: true; the input reads as it did. -/
def segmentPortsSpec : ChangeSpec := { name := "segmentPorts", fn := fun _ => fun
  | [d1, d2, d3, d4, d5] => { results := [.lit (.bool true)], args := [d1, d2, d3, d4, d5] }
  | _ => none }
def segmentPortsRow : OpenClaim := { program := "ytodhhnljeojpaaa", sum := "d74bcea0b03fb2c0d3fa201adc8d35b0ea059986d2d9ade1317913a38bed79b9", func := "guerite/gueritelaw06.SegmentPorts", spec := "segmentPorts", inPlace := ["internal/abi.NoEscape"], unfollowed := true, recurses := true, apart := false }
def SegmentPortsSaid : Prop := segmentPortsRow.holds Try.pinned (OpenSpec.ofChange segmentPortsSpec)

/-- ITS FALSE NEIGHBOUR: 'it returns false'. Refute it at one input. -/
def segmentPortsWrong : ChangeSpec := { name := "segmentPorts", fn := fun _ => fun
  | [d1, d2, d3, d4, d5] => { results := [.lit (.bool false)], args := [d1, d2, d3, d4, d5] }
  | _ => none }
def SegmentPortsWrongFalsely : Prop := segmentPortsRow.holds Try.pinned (OpenSpec.ofChange segmentPortsWrong)

/-- 'gueritelaw07.NoticeEncodes': WHATEVER THE INPUT: true; the input reads as it did. -/
def noticeEncodesSpec : ChangeSpec := { name := "noticeEncodes", fn := fun _ => fun
  | [d] => { results := [.lit (.bool true)], args := [d] }
  | _ => none }
def noticeEncodesRow : OpenClaim := { program := "ytodhhnljeojpaaa", sum := "d74bcea0b03fb2c0d3fa201adc8d35b0ea059986d2d9ade1317913a38bed79b9", func := "guerite/gueritelaw07.NoticeEncodes", spec := "noticeEncodes", inPlace := ["internal/abi.NoEscape"], unfollowed := true, recurses := true, apart := false }
def NoticeEncodesSaid : Prop := noticeEncodesRow.holds Try.pinned (OpenSpec.ofChange noticeEncodesSpec)

/-- ITS FALSE NEIGHBOUR: 'it returns false'. Refute it at one input. -/
def noticeEncodesWrong : ChangeSpec := { name := "noticeEncodes", fn := fun _ => fun
  | [d] => { results := [.lit (.bool false)], args := [d] }
  | _ => none }
def NoticeEncodesWrongFalsely : Prop := noticeEncodesRow.holds Try.pinned (OpenSpec.ofChange noticeEncodesWrong)

/-- 'gueritelaw07.NoticeParses': WHATEVER THE INPUT: true; the input reads as it did. -/
def noticeParsesSpec : ChangeSpec := { name := "noticeParses", fn := fun _ => fun
  | [d] => { results := [.lit (.bool true)], args := [d] }
  | _ => none }
def noticeParsesRow : OpenClaim := { program := "ytodhhnljeojpaaa", sum := "d74bcea0b03fb2c0d3fa201adc8d35b0ea059986d2d9ade1317913a38bed79b9", func := "guerite/gueritelaw07.NoticeParses", spec := "noticeParses", inPlace := ["internal/abi.NoEscape"], unfollowed := true, recurses := true, apart := false }
def NoticeParsesSaid : Prop := noticeParsesRow.holds Try.pinned (OpenSpec.ofChange noticeParsesSpec)

/-- ITS FALSE NEIGHBOUR: 'it returns false'. Refute it at one input. -/
def noticeParsesWrong : ChangeSpec := { name := "noticeParses", fn := fun _ => fun
  | [d] => { results := [.lit (.bool false)], args := [d] }
  | _ => none }
def NoticeParsesWrongFalsely : Prop := noticeParsesRow.holds Try.pinned (OpenSpec.ofChange noticeParsesWrong)

/-- 'gueritelaw06.SegmentEncodes': WHATEVER THE INPUT: true; the input reads as it did. -/
def segmentEncodesSpec : ChangeSpec := { name := "segmentEncodes", fn := fun _ => fun
  | [d1, d2, d3, d4] => { results := [.lit (.bool true)], args := [d1, d2, d3, d4] }
  | _ => none }
def segmentEncodesRow : OpenClaim := { program := "ytodhhnljeojpaaa", sum := "d74bcea0b03fb2c0d3fa201adc8d35b0ea059986d2d9ade1317913a38bed79b9", func := "guerite/gueritelaw06.SegmentEncodes", spec := "segmentEncodes", inPlace := ["internal/abi.NoEscape"], unfollowed := true, recurses := true, apart := false }
def SegmentEncodesSaid : Prop := segmentEncodesRow.holds Try.pinned (OpenSpec.ofChange segmentEncodesSpec)

/-- ITS FALSE NEIGHBOUR: 'it returns false'. Refute it at one input. -/
def segmentEncodesWrong : ChangeSpec := { name := "segmentEncodes", fn := fun _ => fun
  | [d1, d2, d3, d4] => { results := [.lit (.bool false)], args := [d1, d2, d3, d4] }
  | _ => none }
def SegmentEncodesWrongFalsely : Prop := segmentEncodesRow.holds Try.pinned (OpenSpec.ofChange segmentEncodesWrong)

/-- 'gueritelaw06.SegmentBent': WHATEVER THE INPUT: true; the input reads as it did. -/
def segmentBentSpec : ChangeSpec := { name := "segmentBent", fn := fun _ => fun
  | [d1, d2, d3, d4, d5] => { results := [.lit (.bool true)], args := [d1, d2, d3, d4, d5] }
  | _ => none }
def segmentBentRow : OpenClaim := { program := "ytodhhnljeojpaaa", sum := "d74bcea0b03fb2c0d3fa201adc8d35b0ea059986d2d9ade1317913a38bed79b9", func := "guerite/gueritelaw06.SegmentBent", spec := "segmentBent", inPlace := ["internal/abi.NoEscape"], unfollowed := true, recurses := true, apart := false }
def SegmentBentSaid : Prop := segmentBentRow.holds Try.pinned (OpenSpec.ofChange segmentBentSpec)

/-- ITS FALSE NEIGHBOUR: 'it returns false'. Refute it at one input. -/
def segmentBentWrong : ChangeSpec := { name := "segmentBent", fn := fun _ => fun
  | [d1, d2, d3, d4, d5] => { results := [.lit (.bool false)], args := [d1, d2, d3, d4, d5] }
  | _ => none }
def SegmentBentWrongFalsely : Prop := segmentBentRow.holds Try.pinned (OpenSpec.ofChange segmentBentWrong)

/-- 'gueritelaw06.SegmentParses': WHATEVER THE INPUT: true; the input reads as it did. -/
def segmentParsesSpec : ChangeSpec := { name := "segmentParses", fn := fun _ => fun
  | [d1, d2, d3, d4] => { results := [.lit (.bool true)], args := [d1, d2, d3, d4] }
  | _ => none }
def segmentParsesRow : OpenClaim := { program := "ytodhhnljeojpaaa", sum := "d74bcea0b03fb2c0d3fa201adc8d35b0ea059986d2d9ade1317913a38bed79b9", func := "guerite/gueritelaw06.SegmentParses", spec := "segmentParses", inPlace := ["internal/abi.NoEscape"], unfollowed := true, recurses := true, apart := false }
def SegmentParsesSaid : Prop := segmentParsesRow.holds Try.pinned (OpenSpec.ofChange segmentParsesSpec)

/-- ITS FALSE NEIGHBOUR: 'it returns false'. Refute it at one input. -/
def segmentParsesWrong : ChangeSpec := { name := "segmentParses", fn := fun _ => fun
  | [d1, d2, d3, d4] => { results := [.lit (.bool false)], args := [d1, d2, d3, d4] }
  | _ => none }
def SegmentParsesWrongFalsely : Prop := segmentParsesRow.holds Try.pinned (OpenSpec.ofChange segmentParsesWrong)

/-- 'gueritelaw07.NoticeInners': WHATEVER THE INPUT: true; the input reads as it did. -/
def noticeInnersSpec : ChangeSpec := { name := "noticeInners", fn := fun _ => fun
  | [d] => { results := [.lit (.bool true)], args := [d] }
  | _ => none }
def noticeInnersRow : OpenClaim := { program := "ytodhhnljeojpaaa", sum := "d74bcea0b03fb2c0d3fa201adc8d35b0ea059986d2d9ade1317913a38bed79b9", func := "guerite/gueritelaw07.NoticeInners", spec := "noticeInners", inPlace := ["internal/abi.NoEscape"], unfollowed := true, recurses := true, apart := false }
def NoticeInnersSaid : Prop := noticeInnersRow.holds Try.pinned (OpenSpec.ofChange noticeInnersSpec)

/-- ITS FALSE NEIGHBOUR: 'it returns false'. Refute it at one input. -/
def noticeInnersWrong : ChangeSpec := { name := "noticeInners", fn := fun _ => fun
  | [d] => { results := [.lit (.bool false)], args := [d] }
  | _ => none }
def NoticeInnersWrongFalsely : Prop := noticeInnersRow.holds Try.pinned (OpenSpec.ofChange noticeInnersWrong)

/-- 'gueritelaw07.NoticeTells': WHATEVER THE INPUT: true; the input reads as it did. -/
def noticeTellsSpec : ChangeSpec := { name := "noticeTells", fn := fun _ => fun
  | [d] => { results := [.lit (.bool true)], args := [d] }
  | _ => none }
def noticeTellsRow : OpenClaim := { program := "ytodhhnljeojpaaa", sum := "d74bcea0b03fb2c0d3fa201adc8d35b0ea059986d2d9ade1317913a38bed79b9", func := "guerite/gueritelaw07.NoticeTells", spec := "noticeTells", inPlace := ["internal/abi.NoEscape"], unfollowed := true, recurses := true, apart := false }
def NoticeTellsSaid : Prop := noticeTellsRow.holds Try.pinned (OpenSpec.ofChange noticeTellsSpec)

/-- ITS FALSE NEIGHBOUR: 'it returns false'. Refute it at one input. -/
def noticeTellsWrong : ChangeSpec := { name := "noticeTells", fn := fun _ => fun
  | [d] => { results := [.lit (.bool false)], args := [d] }
  | _ => none }
def NoticeTellsWrongFalsely : Prop := noticeTellsRow.holds Try.pinned (OpenSpec.ofChange noticeTellsWrong)

/- THE SECOND FORM. 'bulk': how many values and letters a reading holds, each counted each time it is reached (what is shared counts as often as it is met; a slice's spare places count too). A statement '..UptoSaid' is the law's where the arguments, and the package variables that the reading takes, are together of bulk at most 1048576: NARROWER than '..Said'. Prove '..Said' where nothing that the law and all that it calls make is longer than what came in: it says more and counts as full. Else prove '..UptoSaid'. A law counts once. -/
mutual
def uptoBulk {H : Type} : DataW H → Nat
  | .lit (.string bytes) => bytes.length + 1
  | .lit _ => 1
  | .nil => 1
  | .ptr d => uptoBulk d + 1
  | .slice elems spare => uptoBulkAll elems + uptoBulkAll spare + 1
  | .agg parts => uptoBulkAll parts + 1
  | .iface _ d => uptoBulk d + 1
  | .map entries => uptoBulkEntries entries + 1
  | .held _ => 1
def uptoBulkAll {H : Type} : List (DataW H) → Nat
  | [] => 0
  | d :: r => uptoBulk d + uptoBulkAll r
def uptoBulkEntries {H : Type} : List (Lit × DataW H) → Nat
  | [] => 0
  | x :: r => uptoBulkEntry x + uptoBulkEntries r
def uptoBulkEntry {H : Type} : Lit × DataW H → Nat
  | (.string bytes, d) => bytes.length + uptoBulk d + 1
  | (_, d) => uptoBulk d + 1
 end
def uptoSmall : (H : Type) → List (DataW H) → Bool := fun _ ds => decide (uptoBulkAll ds ≤ 1048576)
def OpenSpec.upto (s : _root_.Go.ChangeSpec) : _root_.Go.OpenSpec := { _root_.Go.OpenSpec.ofChange s with cond := some uptoSmall }

/-- 'gueritelaw06.SegmentPorts', WHERE WHAT IT READS IS OF BULK AT MOST 1048576: true; the input reads as it did. -/
def segmentPortsUptoRow : OpenClaim := { program := "ytodhhnljeojpaaa", sum := "d74bcea0b03fb2c0d3fa201adc8d35b0ea059986d2d9ade1317913a38bed79b9", func := "guerite/gueritelaw06.SegmentPorts", spec := "segmentPorts", inPlace := ["internal/abi.NoEscape"], unfollowed := true, recurses := true, apart := false, narrowed := true }
def SegmentPortsUptoSaid : Prop := segmentPortsUptoRow.holds Try.pinned (OpenSpec.upto segmentPortsSpec)

/-- 'gueritelaw07.NoticeEncodes', WHERE WHAT IT READS IS OF BULK AT MOST 1048576: true; the input reads as it did. -/
def noticeEncodesUptoRow : OpenClaim := { program := "ytodhhnljeojpaaa", sum := "d74bcea0b03fb2c0d3fa201adc8d35b0ea059986d2d9ade1317913a38bed79b9", func := "guerite/gueritelaw07.NoticeEncodes", spec := "noticeEncodes", inPlace := ["internal/abi.NoEscape"], unfollowed := true, recurses := true, apart := false, narrowed := true }
def NoticeEncodesUptoSaid : Prop := noticeEncodesUptoRow.holds Try.pinned (OpenSpec.upto noticeEncodesSpec)

/-- 'gueritelaw07.NoticeParses', WHERE WHAT IT READS IS OF BULK AT MOST 1048576: true; the input reads as it did. -/
def noticeParsesUptoRow : OpenClaim := { program := "ytodhhnljeojpaaa", sum := "d74bcea0b03fb2c0d3fa201adc8d35b0ea059986d2d9ade1317913a38bed79b9", func := "guerite/gueritelaw07.NoticeParses", spec := "noticeParses", inPlace := ["internal/abi.NoEscape"], unfollowed := true, recurses := true, apart := false, narrowed := true }
def NoticeParsesUptoSaid : Prop := noticeParsesUptoRow.holds Try.pinned (OpenSpec.upto noticeParsesSpec)

/-- 'gueritelaw06.SegmentEncodes', WHERE WHAT IT READS IS OF BULK AT MOST 1048576: true; the input reads as it did. -/
def segmentEncodesUptoRow : OpenClaim := { program := "ytodhhnljeojpaaa", sum := "d74bcea0b03fb2c0d3fa201adc8d35b0ea059986d2d9ade1317913a38bed79b9", func := "guerite/gueritelaw06.SegmentEncodes", spec := "segmentEncodes", inPlace := ["internal/abi.NoEscape"], unfollowed := true, recurses := true, apart := false, narrowed := true }
def SegmentEncodesUptoSaid : Prop := segmentEncodesUptoRow.holds Try.pinned (OpenSpec.upto segmentEncodesSpec)

/-- 'gueritelaw06.SegmentBent', WHERE WHAT IT READS IS OF BULK AT MOST 1048576: true; the input reads as it did. -/
def segmentBentUptoRow : OpenClaim := { program := "ytodhhnljeojpaaa", sum := "d74bcea0b03fb2c0d3fa201adc8d35b0ea059986d2d9ade1317913a38bed79b9", func := "guerite/gueritelaw06.SegmentBent", spec := "segmentBent", inPlace := ["internal/abi.NoEscape"], unfollowed := true, recurses := true, apart := false, narrowed := true }
def SegmentBentUptoSaid : Prop := segmentBentUptoRow.holds Try.pinned (OpenSpec.upto segmentBentSpec)

/-- 'gueritelaw06.SegmentParses', WHERE WHAT IT READS IS OF BULK AT MOST 1048576: true; the input reads as it did. -/
def segmentParsesUptoRow : OpenClaim := { program := "ytodhhnljeojpaaa", sum := "d74bcea0b03fb2c0d3fa201adc8d35b0ea059986d2d9ade1317913a38bed79b9", func := "guerite/gueritelaw06.SegmentParses", spec := "segmentParses", inPlace := ["internal/abi.NoEscape"], unfollowed := true, recurses := true, apart := false, narrowed := true }
def SegmentParsesUptoSaid : Prop := segmentParsesUptoRow.holds Try.pinned (OpenSpec.upto segmentParsesSpec)

/-- 'gueritelaw07.NoticeInners', WHERE WHAT IT READS IS OF BULK AT MOST 1048576: true; the input reads as it did. -/
def noticeInnersUptoRow : OpenClaim := { program := "ytodhhnljeojpaaa", sum := "d74bcea0b03fb2c0d3fa201adc8d35b0ea059986d2d9ade1317913a38bed79b9", func := "guerite/gueritelaw07.NoticeInners", spec := "noticeInners", inPlace := ["internal/abi.NoEscape"], unfollowed := true, recurses := true, apart := false, narrowed := true }
def NoticeInnersUptoSaid : Prop := noticeInnersUptoRow.holds Try.pinned (OpenSpec.upto noticeInnersSpec)

/-- 'gueritelaw07.NoticeTells', WHERE WHAT IT READS IS OF BULK AT MOST 1048576: true; the input reads as it did. -/
def noticeTellsUptoRow : OpenClaim := { program := "ytodhhnljeojpaaa", sum := "d74bcea0b03fb2c0d3fa201adc8d35b0ea059986d2d9ade1317913a38bed79b9", func := "guerite/gueritelaw07.NoticeTells", spec := "noticeTells", inPlace := ["internal/abi.NoEscape"], unfollowed := true, recurses := true, apart := false, narrowed := true }
def NoticeTellsUptoSaid : Prop := noticeTellsUptoRow.holds Try.pinned (OpenSpec.upto noticeTellsSpec)

end Rows
end Go.Proofs.Ytodhhnljeojpaaa
