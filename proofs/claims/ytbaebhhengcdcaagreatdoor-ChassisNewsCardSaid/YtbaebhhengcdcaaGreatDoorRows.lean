/-
  NARROWER THAN 'FOR EVERY INPUT', by the rows' own cells (each row's printed sentence says how): ChassisNews: laid · ChassisRelays: laid · ChassisLinks: laid · ChassisTold: laid · ChassisSends: laid · ChassisScripts: laid.
  DERIVED. THE GIVEN ROWS OF THIS SEAT. 6 by the template 'for every input the law returns true; each argument reads behind the call as it read before'; 0 by the template 'total and deterministic' (their statements: YtbaebhhengcdcaaGreatDoorTotals.lean).
  GIVEN WITH THE SEED: the statements are not yours to turn. If you find one false, say at which input.
  Laid BY PROGRAM, IN A SANDBOX (cutbox-rows.mjs): the forced cells as the released guide's own fill.sh prints them over the translation 12fa4322aec9a907… (all of the seat's roots in one cut). By AI agents, Wed Nov 11 2026. No macro, syntax, notation, axiom, sorry.
-/
import Derived.Test.YtbaebhhengcdcaaGreatDoorChecked
import GoSem.Claim
import GoSem.ClaimJoined
import GoSem.ClaimMapViews
import Derived.JoinedTies
import Derived.KernelRfl
namespace Go.Proofs.YtbaebhhengcdcaaGreatDoor
/- THE CELL 'sum', in the pinned program and in every row, IS THE sha256 OF THE DUMP (.gsa) THAT YtbaebhhengcdcaaGreatDoorProg.lean LOADS. Nothing in Lean hashes anything: it is a label: what it is worth is what the hold of that sum in a sandbox is worth. -/
noncomputable def Tryz.pinned : Pinned := { name := "ytbaebhhengcdcaagreatdoor", sum := "12fa4322aec9a9079d47b5aa3cc85dd9a2cf966df4fd02cd6fc08b2ef8a2ccee", checked := Tryz.checked }
namespace Rows
def none {H : Type} : Left H := { results := [], args := [] }

/- WHAT THE LISTED PACKAGE-LEVEL VARIABLES READ AS WHEN THE CALL BEGINS. Each datum BY PROGRAM (the guide's laid-datum.mjs) off the statement by which the dump's own 'gosem.cut.vars' lays the variable. In a bare row this is a premise. The card (YtbaebhhengcdcaaGreatDoorCards.lean) ties it to the program's text. -/
def laid_gemel_control_has {H : Type} : DataW H := .agg [.lit (.int .u8 0), .lit (.int .u8 7), .lit (.int .u8 3), .lit (.int .u8 12), .lit (.int .u8 12), .lit (.int .u8 20), .lit (.int .u8 12), .lit (.int .u8 8), .lit (.int .u8 29)]
def laid_bytes_ErrTooLarge {H : Type} : DataW H := .iface "*errors.errorString" (.ptr (.agg [.lit (.string [98, 121, 116, 101, 115, 46, 66, 117, 102, 102, 101, 114, 58, 32, 116, 111, 111, 32, 108, 97, 114, 103, 101])]))

/-- 'gemellaw23.ChassisNews': WHATEVER THE INPUT: true; the input reads as it did. -/
def chassisNewsSpec : ChangeSpec := { name := "chassisNews", fn := fun _ => fun
  | [d1, d2] => { results := [.lit (.bool true)], args := [d1, d2] }
  | _ => none }
def chassisNewsRow : OpenClaim := { program := "ytbaebhhengcdcaagreatdoor", sum := "12fa4322aec9a9079d47b5aa3cc85dd9a2cf966df4fd02cd6fc08b2ef8a2ccee", func := "gemel/gemellaw23.ChassisNews", spec := "chassisNews", unfollowed := true, recurses := true, named := ["gemel/control.has", "bytes.ErrTooLarge"], plainKeys := false, apart := false, laid := [("gemel/control.has", laid_gemel_control_has), ("bytes.ErrTooLarge", laid_bytes_ErrTooLarge)] }
def ChassisNewsSaid : Prop := chassisNewsRow.holds Tryz.pinned (OpenSpec.ofChange chassisNewsSpec)

/-- ITS FALSE NEIGHBOUR: 'it returns false'. Refute it at one input. -/
def chassisNewsWrong : ChangeSpec := { name := "chassisNews", fn := fun _ => fun
  | [d1, d2] => { results := [.lit (.bool false)], args := [d1, d2] }
  | _ => none }
def ChassisNewsWrongFalsely : Prop := chassisNewsRow.holds Tryz.pinned (OpenSpec.ofChange chassisNewsWrong)

/-- 'gemellaw23.ChassisRelays': WHATEVER THE INPUT: true; the input reads as it did. -/
def chassisRelaysSpec : ChangeSpec := { name := "chassisRelays", fn := fun _ => fun
  | [d1, d2] => { results := [.lit (.bool true)], args := [d1, d2] }
  | _ => none }
def chassisRelaysRow : OpenClaim := { program := "ytbaebhhengcdcaagreatdoor", sum := "12fa4322aec9a9079d47b5aa3cc85dd9a2cf966df4fd02cd6fc08b2ef8a2ccee", func := "gemel/gemellaw23.ChassisRelays", spec := "chassisRelays", inPlace := ["internal/bytealg.Compare"], unfollowed := true, recurses := true, named := ["gemel/control.has", "bytes.ErrTooLarge"], plainKeys := false, apart := false, laid := [("gemel/control.has", laid_gemel_control_has), ("bytes.ErrTooLarge", laid_bytes_ErrTooLarge)] }
def ChassisRelaysSaid : Prop := chassisRelaysRow.holds Tryz.pinned (OpenSpec.ofChange chassisRelaysSpec)

/-- ITS FALSE NEIGHBOUR: 'it returns false'. Refute it at one input. -/
def chassisRelaysWrong : ChangeSpec := { name := "chassisRelays", fn := fun _ => fun
  | [d1, d2] => { results := [.lit (.bool false)], args := [d1, d2] }
  | _ => none }
def ChassisRelaysWrongFalsely : Prop := chassisRelaysRow.holds Tryz.pinned (OpenSpec.ofChange chassisRelaysWrong)

/-- 'gemellaw23.ChassisLinks': WHATEVER THE INPUT: true; the input reads as it did. -/
def chassisLinksSpec : ChangeSpec := { name := "chassisLinks", fn := fun _ => fun
  | [d1, d2, d3] => { results := [.lit (.bool true)], args := [d1, d2, d3] }
  | _ => none }
def chassisLinksRow : OpenClaim := { program := "ytbaebhhengcdcaagreatdoor", sum := "12fa4322aec9a9079d47b5aa3cc85dd9a2cf966df4fd02cd6fc08b2ef8a2ccee", func := "gemel/gemellaw23.ChassisLinks", spec := "chassisLinks", inPlace := ["internal/bytealg.Compare"], unfollowed := true, recurses := true, named := ["gemel/control.has", "bytes.ErrTooLarge"], plainKeys := false, apart := false, laid := [("gemel/control.has", laid_gemel_control_has), ("bytes.ErrTooLarge", laid_bytes_ErrTooLarge)] }
def ChassisLinksSaid : Prop := chassisLinksRow.holds Tryz.pinned (OpenSpec.ofChange chassisLinksSpec)

/-- ITS FALSE NEIGHBOUR: 'it returns false'. Refute it at one input. -/
def chassisLinksWrong : ChangeSpec := { name := "chassisLinks", fn := fun _ => fun
  | [d1, d2, d3] => { results := [.lit (.bool false)], args := [d1, d2, d3] }
  | _ => none }
def ChassisLinksWrongFalsely : Prop := chassisLinksRow.holds Tryz.pinned (OpenSpec.ofChange chassisLinksWrong)

/-- 'gemellaw23.ChassisTold': WHATEVER THE INPUT: true; the input reads as it did. -/
def chassisToldSpec : ChangeSpec := { name := "chassisTold", fn := fun _ => fun
  | [d1, d2, d3] => { results := [.lit (.bool true)], args := [d1, d2, d3] }
  | _ => none }
def chassisToldRow : OpenClaim := { program := "ytbaebhhengcdcaagreatdoor", sum := "12fa4322aec9a9079d47b5aa3cc85dd9a2cf966df4fd02cd6fc08b2ef8a2ccee", func := "gemel/gemellaw23.ChassisTold", spec := "chassisTold", inPlace := ["internal/bytealg.Compare"], unfollowed := true, recurses := true, named := ["gemel/control.has", "bytes.ErrTooLarge"], plainKeys := false, apart := false, laid := [("gemel/control.has", laid_gemel_control_has), ("bytes.ErrTooLarge", laid_bytes_ErrTooLarge)] }
def ChassisToldSaid : Prop := chassisToldRow.holds Tryz.pinned (OpenSpec.ofChange chassisToldSpec)

/-- ITS FALSE NEIGHBOUR: 'it returns false'. Refute it at one input. -/
def chassisToldWrong : ChangeSpec := { name := "chassisTold", fn := fun _ => fun
  | [d1, d2, d3] => { results := [.lit (.bool false)], args := [d1, d2, d3] }
  | _ => none }
def ChassisToldWrongFalsely : Prop := chassisToldRow.holds Tryz.pinned (OpenSpec.ofChange chassisToldWrong)

/-- 'gemellaw23.ChassisSends': WHATEVER THE INPUT: true; the input reads as it did. -/
def chassisSendsSpec : ChangeSpec := { name := "chassisSends", fn := fun _ => fun
  | [d] => { results := [.lit (.bool true)], args := [d] }
  | _ => none }
def chassisSendsRow : OpenClaim := { program := "ytbaebhhengcdcaagreatdoor", sum := "12fa4322aec9a9079d47b5aa3cc85dd9a2cf966df4fd02cd6fc08b2ef8a2ccee", func := "gemel/gemellaw23.ChassisSends", spec := "chassisSends", inPlace := ["internal/bytealg.Compare"], unfollowed := true, recurses := true, named := ["gemel/control.has", "bytes.ErrTooLarge"], plainKeys := false, apart := false, laid := [("gemel/control.has", laid_gemel_control_has), ("bytes.ErrTooLarge", laid_bytes_ErrTooLarge)] }
def ChassisSendsSaid : Prop := chassisSendsRow.holds Tryz.pinned (OpenSpec.ofChange chassisSendsSpec)

/-- ITS FALSE NEIGHBOUR: 'it returns false'. Refute it at one input. -/
def chassisSendsWrong : ChangeSpec := { name := "chassisSends", fn := fun _ => fun
  | [d] => { results := [.lit (.bool false)], args := [d] }
  | _ => none }
def ChassisSendsWrongFalsely : Prop := chassisSendsRow.holds Tryz.pinned (OpenSpec.ofChange chassisSendsWrong)

/-- 'gemellaw23.ChassisScripts': WHATEVER THE INPUT: true; the input reads as it did. -/
def chassisScriptsSpec : ChangeSpec := { name := "chassisScripts", fn := fun _ => fun
  | [d] => { results := [.lit (.bool true)], args := [d] }
  | _ => none }
def chassisScriptsRow : OpenClaim := { program := "ytbaebhhengcdcaagreatdoor", sum := "12fa4322aec9a9079d47b5aa3cc85dd9a2cf966df4fd02cd6fc08b2ef8a2ccee", func := "gemel/gemellaw23.ChassisScripts", spec := "chassisScripts", inPlace := ["internal/bytealg.Compare"], unfollowed := true, recurses := true, named := ["gemel/control.has", "bytes.ErrTooLarge"], plainKeys := false, apart := false, laid := [("gemel/control.has", laid_gemel_control_has), ("bytes.ErrTooLarge", laid_bytes_ErrTooLarge)] }
def ChassisScriptsSaid : Prop := chassisScriptsRow.holds Tryz.pinned (OpenSpec.ofChange chassisScriptsSpec)

/-- ITS FALSE NEIGHBOUR: 'it returns false'. Refute it at one input. -/
def chassisScriptsWrong : ChangeSpec := { name := "chassisScripts", fn := fun _ => fun
  | [d] => { results := [.lit (.bool false)], args := [d] }
  | _ => none }
def ChassisScriptsWrongFalsely : Prop := chassisScriptsRow.holds Tryz.pinned (OpenSpec.ofChange chassisScriptsWrong)

/- THE SECOND FORM. 'bulk': how many values and letters a reading holds, each counted each time it is reached (what is shared counts as often as it is met; a slice's spare places count too). A statement '..UptoSaid' is the law's where the arguments, and the package variables that the reading takes, are together of bulk at most 1048576: NARROWER than '..Said'. Prove '..Said' where nothing that the law and all that it calls make is longer than what came in: it says more and counts as full. Else prove '..UptoSaid'. A law counts once. -/
mutual
def uptoBulk {H : Type} : DataW H → Nat
  | .lit (.string bytes) => bytes.length + 1
  | .lit _ => 1
  | .nil => 1
  | .ptr d => uptoBulk d + 1
  | .slice elems spare => uptoBulkAll elems + uptoBulkAll spare + 1
  | .agg parts => uptoBulkAll parts + 1
  | .iface _ d => uptoBulk d + 1
  | .map entries => uptoBulkEntries entries + 1
  | .held _ => 1
def uptoBulkAll {H : Type} : List (DataW H) → Nat
  | [] => 0
  | d :: r => uptoBulk d + uptoBulkAll r
def uptoBulkEntries {H : Type} : List (Lit × DataW H) → Nat
  | [] => 0
  | x :: r => uptoBulkEntry x + uptoBulkEntries r
def uptoBulkEntry {H : Type} : Lit × DataW H → Nat
  | (.string bytes, d) => bytes.length + uptoBulk d + 1
  | (_, d) => uptoBulk d + 1
 end
def uptoSmall : (H : Type) → List (DataW H) → Bool := fun _ ds => decide (uptoBulkAll ds ≤ 1048576)
def OpenSpec.upto (s : _root_.Go.ChangeSpec) : _root_.Go.OpenSpec := { _root_.Go.OpenSpec.ofChange s with cond := some uptoSmall }

/-- 'gemellaw23.ChassisNews', WHERE WHAT IT READS IS OF BULK AT MOST 1048576: true; the input reads as it did. -/
def chassisNewsUptoRow : OpenClaim := { program := "ytbaebhhengcdcaagreatdoor", sum := "12fa4322aec9a9079d47b5aa3cc85dd9a2cf966df4fd02cd6fc08b2ef8a2ccee", func := "gemel/gemellaw23.ChassisNews", spec := "chassisNews", unfollowed := true, recurses := true, named := ["gemel/control.has", "bytes.ErrTooLarge"], plainKeys := false, apart := false, laid := [("gemel/control.has", laid_gemel_control_has), ("bytes.ErrTooLarge", laid_bytes_ErrTooLarge)], narrowed := true }
def ChassisNewsUptoSaid : Prop := chassisNewsUptoRow.holds Tryz.pinned (OpenSpec.upto chassisNewsSpec)

/-- 'gemellaw23.ChassisRelays', WHERE WHAT IT READS IS OF BULK AT MOST 1048576: true; the input reads as it did. -/
def chassisRelaysUptoRow : OpenClaim := { program := "ytbaebhhengcdcaagreatdoor", sum := "12fa4322aec9a9079d47b5aa3cc85dd9a2cf966df4fd02cd6fc08b2ef8a2ccee", func := "gemel/gemellaw23.ChassisRelays", spec := "chassisRelays", inPlace := ["internal/bytealg.Compare"], unfollowed := true, recurses := true, named := ["gemel/control.has", "bytes.ErrTooLarge"], plainKeys := false, apart := false, laid := [("gemel/control.has", laid_gemel_control_has), ("bytes.ErrTooLarge", laid_bytes_ErrTooLarge)], narrowed := true }
def ChassisRelaysUptoSaid : Prop := chassisRelaysUptoRow.holds Tryz.pinned (OpenSpec.upto chassisRelaysSpec)

/-- 'gemellaw23.ChassisLinks', WHERE WHAT IT READS IS OF BULK AT MOST 1048576: true; the input reads as it did. -/
def chassisLinksUptoRow : OpenClaim := { program := "ytbaebhhengcdcaagreatdoor", sum := "12fa4322aec9a9079d47b5aa3cc85dd9a2cf966df4fd02cd6fc08b2ef8a2ccee", func := "gemel/gemellaw23.ChassisLinks", spec := "chassisLinks", inPlace := ["internal/bytealg.Compare"], unfollowed := true, recurses := true, named := ["gemel/control.has", "bytes.ErrTooLarge"], plainKeys := false, apart := false, laid := [("gemel/control.has", laid_gemel_control_has), ("bytes.ErrTooLarge", laid_bytes_ErrTooLarge)], narrowed := true }
def ChassisLinksUptoSaid : Prop := chassisLinksUptoRow.holds Tryz.pinned (OpenSpec.upto chassisLinksSpec)

/-- 'gemellaw23.ChassisTold', WHERE WHAT IT READS IS OF BULK AT MOST 1048576: true; the input reads as it did. -/
def chassisToldUptoRow : OpenClaim := { program := "ytbaebhhengcdcaagreatdoor", sum := "12fa4322aec9a9079d47b5aa3cc85dd9a2cf966df4fd02cd6fc08b2ef8a2ccee", func := "gemel/gemellaw23.ChassisTold", spec := "chassisTold", inPlace := ["internal/bytealg.Compare"], unfollowed := true, recurses := true, named := ["gemel/control.has", "bytes.ErrTooLarge"], plainKeys := false, apart := false, laid := [("gemel/control.has", laid_gemel_control_has), ("bytes.ErrTooLarge", laid_bytes_ErrTooLarge)], narrowed := true }
def ChassisToldUptoSaid : Prop := chassisToldUptoRow.holds Tryz.pinned (OpenSpec.upto chassisToldSpec)

/-- 'gemellaw23.ChassisSends', WHERE WHAT IT READS IS OF BULK AT MOST 1048576: true; the input reads as it did. -/
def chassisSendsUptoRow : OpenClaim := { program := "ytbaebhhengcdcaagreatdoor", sum := "12fa4322aec9a9079d47b5aa3cc85dd9a2cf966df4fd02cd6fc08b2ef8a2ccee", func := "gemel/gemellaw23.ChassisSends", spec := "chassisSends", inPlace := ["internal/bytealg.Compare"], unfollowed := true, recurses := true, named := ["gemel/control.has", "bytes.ErrTooLarge"], plainKeys := false, apart := false, laid := [("gemel/control.has", laid_gemel_control_has), ("bytes.ErrTooLarge", laid_bytes_ErrTooLarge)], narrowed := true }
def ChassisSendsUptoSaid : Prop := chassisSendsUptoRow.holds Tryz.pinned (OpenSpec.upto chassisSendsSpec)

/-- 'gemellaw23.ChassisScripts', WHERE WHAT IT READS IS OF BULK AT MOST 1048576: true; the input reads as it did. -/
def chassisScriptsUptoRow : OpenClaim := { program := "ytbaebhhengcdcaagreatdoor", sum := "12fa4322aec9a9079d47b5aa3cc85dd9a2cf966df4fd02cd6fc08b2ef8a2ccee", func := "gemel/gemellaw23.ChassisScripts", spec := "chassisScripts", inPlace := ["internal/bytealg.Compare"], unfollowed := true, recurses := true, named := ["gemel/control.has", "bytes.ErrTooLarge"], plainKeys := false, apart := false, laid := [("gemel/control.has", laid_gemel_control_has), ("bytes.ErrTooLarge", laid_bytes_ErrTooLarge)], narrowed := true }
def ChassisScriptsUptoSaid : Prop := chassisScriptsUptoRow.holds Tryz.pinned (OpenSpec.upto chassisScriptsSpec)

end Rows
end Go.Proofs.YtbaebhhengcdcaaGreatDoor
