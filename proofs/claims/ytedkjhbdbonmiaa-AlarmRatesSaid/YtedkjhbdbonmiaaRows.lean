/-
  No cell of these rows narrows 'for every input' (looked for: loops, veiled, ifaces, maps, wideKeys, modest, calm, conditions, laid).
  DERIVED. THE GIVEN ROWS OF THIS SEAT. 7 by the template 'for every input the law returns true; each argument reads behind the call as it read before'; 0 by the template 'total and deterministic' (their statements: YtedkjhbdbonmiaaTotals.lean).
  GIVEN WITH THE SEED: the statements are not yours to turn. If you find one false, say at which input.
  Laid BY PROGRAM, IN A SANDBOX (cutbox-rows.mjs): the forced cells as the released guide's own fill.sh prints them over the translation d77c897531212240… (all of the seat's roots in one cut). By AI agents, Wed Nov 11 2026. No macro, syntax, notation, axiom, sorry.
-/
import Derived.Test.YtedkjhbdbonmiaaChecked
import GoSem.Claim
import GoSem.ClaimJoined
import GoSem.ClaimMapViews
import Derived.JoinedTies
import Derived.KernelRfl
namespace Go.Proofs.Ytedkjhbdbonmiaa
/- THE CELL 'sum', in the pinned program and in every row, IS THE sha256 OF THE DUMP (.gsa) THAT YtedkjhbdbonmiaaProg.lean LOADS. Nothing in Lean hashes anything: it is a label: what it is worth is what the hold of that sum in a sandbox is worth. -/
noncomputable def Try.pinned : Pinned := { name := "ytedkjhbdbonmiaa", sum := "d77c897531212240b3f6ace928230c993d72dbde8f00db04a7b45ac86e441f94", checked := Try.checked }
namespace Rows
def none {H : Type} : Left H := { results := [], args := [] }

/-- 'gueritelaw22.TcpOpens': WHATEVER THE INPUT: true; the input reads as it did. -/
def tcpOpensSpec : ChangeSpec := { name := "tcpOpens", fn := fun _ => fun
  | [d] => { results := [.lit (.bool true)], args := [d] }
  | _ => none }
def tcpOpensRow : OpenClaim := { program := "ytedkjhbdbonmiaa", sum := "d77c897531212240b3f6ace928230c993d72dbde8f00db04a7b45ac86e441f94", func := "guerite/gueritelaw22.TcpOpens", spec := "tcpOpens", plainKeys := false, apart := false }
def TcpOpensSaid : Prop := tcpOpensRow.holds Try.pinned (OpenSpec.ofChange tcpOpensSpec)

/-- ITS FALSE NEIGHBOUR: 'it returns false'. Refute it at one input. -/
def tcpOpensWrong : ChangeSpec := { name := "tcpOpens", fn := fun _ => fun
  | [d] => { results := [.lit (.bool false)], args := [d] }
  | _ => none }
def TcpOpensWrongFalsely : Prop := tcpOpensRow.holds Try.pinned (OpenSpec.ofChange tcpOpensWrong)

/-- 'gueritelaw22.TcpSteps': WHATEVER THE INPUT: true; the input reads as it did. -/
def tcpStepsSpec : ChangeSpec := { name := "tcpSteps", fn := fun _ => fun
  | [d] => { results := [.lit (.bool true)], args := [d] }
  | _ => none }
def tcpStepsRow : OpenClaim := { program := "ytedkjhbdbonmiaa", sum := "d77c897531212240b3f6ace928230c993d72dbde8f00db04a7b45ac86e441f94", func := "guerite/gueritelaw22.TcpSteps", spec := "tcpSteps", plainKeys := false, apart := false }
def TcpStepsSaid : Prop := tcpStepsRow.holds Try.pinned (OpenSpec.ofChange tcpStepsSpec)

/-- ITS FALSE NEIGHBOUR: 'it returns false'. Refute it at one input. -/
def tcpStepsWrong : ChangeSpec := { name := "tcpSteps", fn := fun _ => fun
  | [d] => { results := [.lit (.bool false)], args := [d] }
  | _ => none }
def TcpStepsWrongFalsely : Prop := tcpStepsRow.holds Try.pinned (OpenSpec.ofChange tcpStepsWrong)

/-- 'gueritelaw22.TcpOnwards': WHATEVER THE INPUT: true; the input reads as it did. -/
def tcpOnwardsSpec : ChangeSpec := { name := "tcpOnwards", fn := fun _ => fun
  | [d1, d2] => { results := [.lit (.bool true)], args := [d1, d2] }
  | _ => none }
def tcpOnwardsRow : OpenClaim := { program := "ytedkjhbdbonmiaa", sum := "d77c897531212240b3f6ace928230c993d72dbde8f00db04a7b45ac86e441f94", func := "guerite/gueritelaw22.TcpOnwards", spec := "tcpOnwards", plainKeys := false, apart := false }
def TcpOnwardsSaid : Prop := tcpOnwardsRow.holds Try.pinned (OpenSpec.ofChange tcpOnwardsSpec)

/-- ITS FALSE NEIGHBOUR: 'it returns false'. Refute it at one input. -/
def tcpOnwardsWrong : ChangeSpec := { name := "tcpOnwards", fn := fun _ => fun
  | [d1, d2] => { results := [.lit (.bool false)], args := [d1, d2] }
  | _ => none }
def TcpOnwardsWrongFalsely : Prop := tcpOnwardsRow.holds Try.pinned (OpenSpec.ofChange tcpOnwardsWrong)

/-- 'gueritelaw37.AlarmFinds': WHATEVER THE INPUT: true; the input reads as it did. -/
def alarmFindsSpec : ChangeSpec := { name := "alarmFinds", fn := fun _ => fun
  | [d1, d2] => { results := [.lit (.bool true)], args := [d1, d2] }
  | _ => none }
def alarmFindsRow : OpenClaim := { program := "ytedkjhbdbonmiaa", sum := "d77c897531212240b3f6ace928230c993d72dbde8f00db04a7b45ac86e441f94", func := "guerite/gueritelaw37.AlarmFinds", spec := "alarmFinds", unfollowed := true, recurses := true, plainKeys := false, apart := false }
def AlarmFindsSaid : Prop := alarmFindsRow.holds Try.pinned (OpenSpec.ofChange alarmFindsSpec)

/-- ITS FALSE NEIGHBOUR: 'it returns false'. Refute it at one input. -/
def alarmFindsWrong : ChangeSpec := { name := "alarmFinds", fn := fun _ => fun
  | [d1, d2] => { results := [.lit (.bool false)], args := [d1, d2] }
  | _ => none }
def AlarmFindsWrongFalsely : Prop := alarmFindsRow.holds Try.pinned (OpenSpec.ofChange alarmFindsWrong)

/-- 'gueritelaw37.AlarmFew': WHATEVER THE INPUT: true; the input reads as it did. -/
def alarmFewSpec : ChangeSpec := { name := "alarmFew", fn := fun _ => fun
  | [d1, d2] => { results := [.lit (.bool true)], args := [d1, d2] }
  | _ => none }
def alarmFewRow : OpenClaim := { program := "ytedkjhbdbonmiaa", sum := "d77c897531212240b3f6ace928230c993d72dbde8f00db04a7b45ac86e441f94", func := "guerite/gueritelaw37.AlarmFew", spec := "alarmFew", unfollowed := true, recurses := true, plainKeys := false, apart := false }
def AlarmFewSaid : Prop := alarmFewRow.holds Try.pinned (OpenSpec.ofChange alarmFewSpec)

/-- ITS FALSE NEIGHBOUR: 'it returns false'. Refute it at one input. -/
def alarmFewWrong : ChangeSpec := { name := "alarmFew", fn := fun _ => fun
  | [d1, d2] => { results := [.lit (.bool false)], args := [d1, d2] }
  | _ => none }
def AlarmFewWrongFalsely : Prop := alarmFewRow.holds Try.pinned (OpenSpec.ofChange alarmFewWrong)

/-- 'gueritelaw37.AlarmRates': WHATEVER THE INPUT: true; the input reads as it did. -/
def alarmRatesSpec : ChangeSpec := { name := "alarmRates", fn := fun _ => fun
  | [d1, d2, d3] => { results := [.lit (.bool true)], args := [d1, d2, d3] }
  | _ => none }
def alarmRatesRow : OpenClaim := { program := "ytedkjhbdbonmiaa", sum := "d77c897531212240b3f6ace928230c993d72dbde8f00db04a7b45ac86e441f94", func := "guerite/gueritelaw37.AlarmRates", spec := "alarmRates", unfollowed := true, recurses := true, plainKeys := false, apart := false }
def AlarmRatesSaid : Prop := alarmRatesRow.holds Try.pinned (OpenSpec.ofChange alarmRatesSpec)

/-- ITS FALSE NEIGHBOUR: 'it returns false'. Refute it at one input. -/
def alarmRatesWrong : ChangeSpec := { name := "alarmRates", fn := fun _ => fun
  | [d1, d2, d3] => { results := [.lit (.bool false)], args := [d1, d2, d3] }
  | _ => none }
def AlarmRatesWrongFalsely : Prop := alarmRatesRow.holds Try.pinned (OpenSpec.ofChange alarmRatesWrong)

/-- 'gueritelaw37.AlarmTops': WHATEVER THE INPUT: true; the input reads as it did. -/
def alarmTopsSpec : ChangeSpec := { name := "alarmTops", fn := fun _ => fun
  | [d1, d2, d3] => { results := [.lit (.bool true)], args := [d1, d2, d3] }
  | _ => none }
def alarmTopsRow : OpenClaim := { program := "ytedkjhbdbonmiaa", sum := "d77c897531212240b3f6ace928230c993d72dbde8f00db04a7b45ac86e441f94", func := "guerite/gueritelaw37.AlarmTops", spec := "alarmTops", unfollowed := true, recurses := true, plainKeys := false, apart := false }
def AlarmTopsSaid : Prop := alarmTopsRow.holds Try.pinned (OpenSpec.ofChange alarmTopsSpec)

/-- ITS FALSE NEIGHBOUR: 'it returns false'. Refute it at one input. -/
def alarmTopsWrong : ChangeSpec := { name := "alarmTops", fn := fun _ => fun
  | [d1, d2, d3] => { results := [.lit (.bool false)], args := [d1, d2, d3] }
  | _ => none }
def AlarmTopsWrongFalsely : Prop := alarmTopsRow.holds Try.pinned (OpenSpec.ofChange alarmTopsWrong)

/- THE SECOND FORM. 'bulk': how many values and letters a reading holds, each counted each time it is reached (what is shared counts as often as it is met; a slice's spare places count too). A statement '..UptoSaid' is the law's where the arguments, and the package variables that the reading takes, are together of bulk at most 1048576: NARROWER than '..Said'. Prove '..Said' where nothing that the law and all that it calls make is longer than what came in: it says more and counts as full. Else prove '..UptoSaid'. A law counts once. -/
mutual
def uptoBulk {H : Type} : DataW H → Nat
  | .lit (.string bytes) => bytes.length + 1
  | .lit _ => 1
  | .nil => 1
  | .ptr d => uptoBulk d + 1
  | .slice elems spare => uptoBulkAll elems + uptoBulkAll spare + 1
  | .agg parts => uptoBulkAll parts + 1
  | .iface _ d => uptoBulk d + 1
  | .map entries => uptoBulkEntries entries + 1
  | .held _ => 1
def uptoBulkAll {H : Type} : List (DataW H) → Nat
  | [] => 0
  | d :: r => uptoBulk d + uptoBulkAll r
def uptoBulkEntries {H : Type} : List (Lit × DataW H) → Nat
  | [] => 0
  | x :: r => uptoBulkEntry x + uptoBulkEntries r
def uptoBulkEntry {H : Type} : Lit × DataW H → Nat
  | (.string bytes, d) => bytes.length + uptoBulk d + 1
  | (_, d) => uptoBulk d + 1
 end
def uptoSmall : (H : Type) → List (DataW H) → Bool := fun _ ds => decide (uptoBulkAll ds ≤ 1048576)
def OpenSpec.upto (s : _root_.Go.ChangeSpec) : _root_.Go.OpenSpec := { _root_.Go.OpenSpec.ofChange s with cond := some uptoSmall }

/-- 'gueritelaw22.TcpOpens', WHERE WHAT IT READS IS OF BULK AT MOST 1048576: true; the input reads as it did. -/
def tcpOpensUptoRow : OpenClaim := { program := "ytedkjhbdbonmiaa", sum := "d77c897531212240b3f6ace928230c993d72dbde8f00db04a7b45ac86e441f94", func := "guerite/gueritelaw22.TcpOpens", spec := "tcpOpens", plainKeys := false, apart := false, narrowed := true }
def TcpOpensUptoSaid : Prop := tcpOpensUptoRow.holds Try.pinned (OpenSpec.upto tcpOpensSpec)

/-- 'gueritelaw22.TcpSteps', WHERE WHAT IT READS IS OF BULK AT MOST 1048576: true; the input reads as it did. -/
def tcpStepsUptoRow : OpenClaim := { program := "ytedkjhbdbonmiaa", sum := "d77c897531212240b3f6ace928230c993d72dbde8f00db04a7b45ac86e441f94", func := "guerite/gueritelaw22.TcpSteps", spec := "tcpSteps", plainKeys := false, apart := false, narrowed := true }
def TcpStepsUptoSaid : Prop := tcpStepsUptoRow.holds Try.pinned (OpenSpec.upto tcpStepsSpec)

/-- 'gueritelaw22.TcpOnwards', WHERE WHAT IT READS IS OF BULK AT MOST 1048576: true; the input reads as it did. -/
def tcpOnwardsUptoRow : OpenClaim := { program := "ytedkjhbdbonmiaa", sum := "d77c897531212240b3f6ace928230c993d72dbde8f00db04a7b45ac86e441f94", func := "guerite/gueritelaw22.TcpOnwards", spec := "tcpOnwards", plainKeys := false, apart := false, narrowed := true }
def TcpOnwardsUptoSaid : Prop := tcpOnwardsUptoRow.holds Try.pinned (OpenSpec.upto tcpOnwardsSpec)

/-- 'gueritelaw37.AlarmFinds', WHERE WHAT IT READS IS OF BULK AT MOST 1048576: true; the input reads as it did. -/
def alarmFindsUptoRow : OpenClaim := { program := "ytedkjhbdbonmiaa", sum := "d77c897531212240b3f6ace928230c993d72dbde8f00db04a7b45ac86e441f94", func := "guerite/gueritelaw37.AlarmFinds", spec := "alarmFinds", unfollowed := true, recurses := true, plainKeys := false, apart := false, narrowed := true }
def AlarmFindsUptoSaid : Prop := alarmFindsUptoRow.holds Try.pinned (OpenSpec.upto alarmFindsSpec)

/-- 'gueritelaw37.AlarmFew', WHERE WHAT IT READS IS OF BULK AT MOST 1048576: true; the input reads as it did. -/
def alarmFewUptoRow : OpenClaim := { program := "ytedkjhbdbonmiaa", sum := "d77c897531212240b3f6ace928230c993d72dbde8f00db04a7b45ac86e441f94", func := "guerite/gueritelaw37.AlarmFew", spec := "alarmFew", unfollowed := true, recurses := true, plainKeys := false, apart := false, narrowed := true }
def AlarmFewUptoSaid : Prop := alarmFewUptoRow.holds Try.pinned (OpenSpec.upto alarmFewSpec)

/-- 'gueritelaw37.AlarmRates', WHERE WHAT IT READS IS OF BULK AT MOST 1048576: true; the input reads as it did. -/
def alarmRatesUptoRow : OpenClaim := { program := "ytedkjhbdbonmiaa", sum := "d77c897531212240b3f6ace928230c993d72dbde8f00db04a7b45ac86e441f94", func := "guerite/gueritelaw37.AlarmRates", spec := "alarmRates", unfollowed := true, recurses := true, plainKeys := false, apart := false, narrowed := true }
def AlarmRatesUptoSaid : Prop := alarmRatesUptoRow.holds Try.pinned (OpenSpec.upto alarmRatesSpec)

/-- 'gueritelaw37.AlarmTops', WHERE WHAT IT READS IS OF BULK AT MOST 1048576: true; the input reads as it did. -/
def alarmTopsUptoRow : OpenClaim := { program := "ytedkjhbdbonmiaa", sum := "d77c897531212240b3f6ace928230c993d72dbde8f00db04a7b45ac86e441f94", func := "guerite/gueritelaw37.AlarmTops", spec := "alarmTops", unfollowed := true, recurses := true, plainKeys := false, apart := false, narrowed := true }
def AlarmTopsUptoSaid : Prop := alarmTopsUptoRow.holds Try.pinned (OpenSpec.upto alarmTopsSpec)

end Rows
end Go.Proofs.Ytedkjhbdbonmiaa
