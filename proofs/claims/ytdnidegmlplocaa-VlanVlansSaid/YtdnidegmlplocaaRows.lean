/-
  No cell of these rows narrows 'for every input' (looked for: loops, veiled, ifaces, maps, wideKeys, modest, calm, conditions, laid).
  DERIVED. THE GIVEN ROWS OF THIS SEAT. 7 by the template 'for every input the law returns true; each argument reads behind the call as it read before'; 0 by the template 'total and deterministic' (their statements: YtdnidegmlplocaaTotals.lean).
  GIVEN WITH THE SEED: the statements are not yours to turn. If you find one false, say at which input.
  Laid BY PROGRAM, IN A SANDBOX (cutbox-rows.mjs): the forced cells as the released guide's own fill.sh prints them over the translation f85d2a315beb31fb… (all of the seat's roots in one cut). By AI agents, Wed Nov 11 2026. No macro, syntax, notation, axiom, sorry.
-/
import Derived.Test.YtdnidegmlplocaaChecked
import GoSem.Claim
import GoSem.ClaimJoined
import GoSem.ClaimMapViews
import Derived.JoinedTies
import Derived.KernelRfl
namespace Go.Proofs.Ytdnidegmlplocaa
/- THE CELL 'sum', in the pinned program and in every row, IS THE sha256 OF THE DUMP (.gsa) THAT YtdnidegmlplocaaProg.lean LOADS. Nothing in Lean hashes anything: it is a label: what it is worth is what the hold of that sum in a sandbox is worth. -/
noncomputable def Try.pinned : Pinned := { name := "ytdnidegmlplocaa", sum := "f85d2a315beb31fb5190749c3e44d7abc1c327e96603755d9c13d6628fd87b36", checked := Try.checked }
namespace Rows
def none {H : Type} : Left H := { results := [], args := [] }

/-- 'gemellaw07.VlanFrames': WHATEVER THE INPUT: true; the input reads as it did. -/
def vlanFramesSpec : ChangeSpec := { name := "vlanFrames", fn := fun _ => fun
  | [d1, d2, d3] => { results := [.lit (.bool true)], args := [d1, d2, d3] }
  | _ => none }
def vlanFramesRow : OpenClaim := { program := "ytdnidegmlplocaa", sum := "f85d2a315beb31fb5190749c3e44d7abc1c327e96603755d9c13d6628fd87b36", func := "gemel/gemellaw07.VlanFrames", spec := "vlanFrames", plainKeys := false, apart := false }
def VlanFramesSaid : Prop := vlanFramesRow.holds Try.pinned (OpenSpec.ofChange vlanFramesSpec)

/-- ITS FALSE NEIGHBOUR: 'it returns false'. Refute it at one input. -/
def vlanFramesWrong : ChangeSpec := { name := "vlanFrames", fn := fun _ => fun
  | [d1, d2, d3] => { results := [.lit (.bool false)], args := [d1, d2, d3] }
  | _ => none }
def VlanFramesWrongFalsely : Prop := vlanFramesRow.holds Try.pinned (OpenSpec.ofChange vlanFramesWrong)

/-- 'gemellaw07.VlanNative': WHATEVER THE INPUT: true; the input reads as it did. -/
def vlanNativeSpec : ChangeSpec := { name := "vlanNative", fn := fun _ => fun
  | [d1, d2, d3] => { results := [.lit (.bool true)], args := [d1, d2, d3] }
  | _ => none }
def vlanNativeRow : OpenClaim := { program := "ytdnidegmlplocaa", sum := "f85d2a315beb31fb5190749c3e44d7abc1c327e96603755d9c13d6628fd87b36", func := "gemel/gemellaw07.VlanNative", spec := "vlanNative", plainKeys := false, apart := false }
def VlanNativeSaid : Prop := vlanNativeRow.holds Try.pinned (OpenSpec.ofChange vlanNativeSpec)

/-- ITS FALSE NEIGHBOUR: 'it returns false'. Refute it at one input. -/
def vlanNativeWrong : ChangeSpec := { name := "vlanNative", fn := fun _ => fun
  | [d1, d2, d3] => { results := [.lit (.bool false)], args := [d1, d2, d3] }
  | _ => none }
def VlanNativeWrongFalsely : Prop := vlanNativeRow.holds Try.pinned (OpenSpec.ofChange vlanNativeWrong)

/-- 'gemellaw07.VlanThrough': WHATEVER THE INPUT: true; the input reads as it did. -/
def vlanThroughSpec : ChangeSpec := { name := "vlanThrough", fn := fun _ => fun
  | [d1, d2, d3] => { results := [.lit (.bool true)], args := [d1, d2, d3] }
  | _ => none }
def vlanThroughRow : OpenClaim := { program := "ytdnidegmlplocaa", sum := "f85d2a315beb31fb5190749c3e44d7abc1c327e96603755d9c13d6628fd87b36", func := "gemel/gemellaw07.VlanThrough", spec := "vlanThrough", plainKeys := false, apart := false }
def VlanThroughSaid : Prop := vlanThroughRow.holds Try.pinned (OpenSpec.ofChange vlanThroughSpec)

/-- ITS FALSE NEIGHBOUR: 'it returns false'. Refute it at one input. -/
def vlanThroughWrong : ChangeSpec := { name := "vlanThrough", fn := fun _ => fun
  | [d1, d2, d3] => { results := [.lit (.bool false)], args := [d1, d2, d3] }
  | _ => none }
def VlanThroughWrongFalsely : Prop := vlanThroughRow.holds Try.pinned (OpenSpec.ofChange vlanThroughWrong)

/-- 'gemellaw07.VlanApart': WHATEVER THE INPUT: true; the input reads as it did. -/
def vlanApartSpec : ChangeSpec := { name := "vlanApart", fn := fun _ => fun
  | [d1, d2, d3] => { results := [.lit (.bool true)], args := [d1, d2, d3] }
  | _ => none }
def vlanApartRow : OpenClaim := { program := "ytdnidegmlplocaa", sum := "f85d2a315beb31fb5190749c3e44d7abc1c327e96603755d9c13d6628fd87b36", func := "gemel/gemellaw07.VlanApart", spec := "vlanApart", plainKeys := false, apart := false }
def VlanApartSaid : Prop := vlanApartRow.holds Try.pinned (OpenSpec.ofChange vlanApartSpec)

/-- ITS FALSE NEIGHBOUR: 'it returns false'. Refute it at one input. -/
def vlanApartWrong : ChangeSpec := { name := "vlanApart", fn := fun _ => fun
  | [d1, d2, d3] => { results := [.lit (.bool false)], args := [d1, d2, d3] }
  | _ => none }
def VlanApartWrongFalsely : Prop := vlanApartRow.holds Try.pinned (OpenSpec.ofChange vlanApartWrong)

/-- 'gemellaw07.VlanLast': WHATEVER THE INPUT: true; the input reads as it did. -/
def vlanLastSpec : ChangeSpec := { name := "vlanLast", fn := fun _ => fun
  | [d1, d2] => { results := [.lit (.bool true)], args := [d1, d2] }
  | _ => none }
def vlanLastRow : OpenClaim := { program := "ytdnidegmlplocaa", sum := "f85d2a315beb31fb5190749c3e44d7abc1c327e96603755d9c13d6628fd87b36", func := "gemel/gemellaw07.VlanLast", spec := "vlanLast", plainKeys := false, apart := false }
def VlanLastSaid : Prop := vlanLastRow.holds Try.pinned (OpenSpec.ofChange vlanLastSpec)

/-- ITS FALSE NEIGHBOUR: 'it returns false'. Refute it at one input. -/
def vlanLastWrong : ChangeSpec := { name := "vlanLast", fn := fun _ => fun
  | [d1, d2] => { results := [.lit (.bool false)], args := [d1, d2] }
  | _ => none }
def VlanLastWrongFalsely : Prop := vlanLastRow.holds Try.pinned (OpenSpec.ofChange vlanLastWrong)

/-- 'gemellaw07.VlanScripts': WHATEVER THE INPUT: true; the input reads as it did. -/
def vlanScriptsSpec : ChangeSpec := { name := "vlanScripts", fn := fun _ => fun
  | [d1, d2, d3] => { results := [.lit (.bool true)], args := [d1, d2, d3] }
  | _ => none }
def vlanScriptsRow : OpenClaim := { program := "ytdnidegmlplocaa", sum := "f85d2a315beb31fb5190749c3e44d7abc1c327e96603755d9c13d6628fd87b36", func := "gemel/gemellaw07.VlanScripts", spec := "vlanScripts", unfollowed := true, recurses := true, plainKeys := false, apart := false }
def VlanScriptsSaid : Prop := vlanScriptsRow.holds Try.pinned (OpenSpec.ofChange vlanScriptsSpec)

/-- ITS FALSE NEIGHBOUR: 'it returns false'. Refute it at one input. -/
def vlanScriptsWrong : ChangeSpec := { name := "vlanScripts", fn := fun _ => fun
  | [d1, d2, d3] => { results := [.lit (.bool false)], args := [d1, d2, d3] }
  | _ => none }
def VlanScriptsWrongFalsely : Prop := vlanScriptsRow.holds Try.pinned (OpenSpec.ofChange vlanScriptsWrong)

/-- 'gemellaw07.VlanVlans': WHATEVER THE INPUT: true; the input reads as it did. -/
def vlanVlansSpec : ChangeSpec := { name := "vlanVlans", fn := fun _ => fun
  | [d1, d2] => { results := [.lit (.bool true)], args := [d1, d2] }
  | _ => none }
def vlanVlansRow : OpenClaim := { program := "ytdnidegmlplocaa", sum := "f85d2a315beb31fb5190749c3e44d7abc1c327e96603755d9c13d6628fd87b36", func := "gemel/gemellaw07.VlanVlans", spec := "vlanVlans", unfollowed := true, recurses := true, plainKeys := false, apart := false }
def VlanVlansSaid : Prop := vlanVlansRow.holds Try.pinned (OpenSpec.ofChange vlanVlansSpec)

/-- ITS FALSE NEIGHBOUR: 'it returns false'. Refute it at one input. -/
def vlanVlansWrong : ChangeSpec := { name := "vlanVlans", fn := fun _ => fun
  | [d1, d2] => { results := [.lit (.bool false)], args := [d1, d2] }
  | _ => none }
def VlanVlansWrongFalsely : Prop := vlanVlansRow.holds Try.pinned (OpenSpec.ofChange vlanVlansWrong)

/- THE SECOND FORM. 'bulk': how many values and letters a reading holds, each counted each time it is reached (what is shared counts as often as it is met; a slice's spare places count too). A statement '..UptoSaid' is the law's where the arguments, and the package variables that the reading takes, are together of bulk at most 1048576: NARROWER than '..Said'. Prove '..Said' where nothing that the law and all that it calls make is longer than what came in: it says more and counts as full. Else prove '..UptoSaid'. A law counts once. -/
mutual
def uptoBulk {H : Type} : DataW H → Nat
  | .lit (.string bytes) => bytes.length + 1
  | .lit _ => 1
  | .nil => 1
  | .ptr d => uptoBulk d + 1
  | .slice elems spare => uptoBulkAll elems + uptoBulkAll spare + 1
  | .agg parts => uptoBulkAll parts + 1
  | .iface _ d => uptoBulk d + 1
  | .map entries => uptoBulkEntries entries + 1
  | .held _ => 1
def uptoBulkAll {H : Type} : List (DataW H) → Nat
  | [] => 0
  | d :: r => uptoBulk d + uptoBulkAll r
def uptoBulkEntries {H : Type} : List (Lit × DataW H) → Nat
  | [] => 0
  | x :: r => uptoBulkEntry x + uptoBulkEntries r
def uptoBulkEntry {H : Type} : Lit × DataW H → Nat
  | (.string bytes, d) => bytes.length + uptoBulk d + 1
  | (_, d) => uptoBulk d + 1
 end
def uptoSmall : (H : Type) → List (DataW H) → Bool := fun _ ds => decide (uptoBulkAll ds ≤ 1048576)
def OpenSpec.upto (s : _root_.Go.ChangeSpec) : _root_.Go.OpenSpec := { _root_.Go.OpenSpec.ofChange s with cond := some uptoSmall }

/-- 'gemellaw07.VlanFrames', WHERE WHAT IT READS IS OF BULK AT MOST 1048576: true; the input reads as it did. -/
def vlanFramesUptoRow : OpenClaim := { program := "ytdnidegmlplocaa", sum := "f85d2a315beb31fb5190749c3e44d7abc1c327e96603755d9c13d6628fd87b36", func := "gemel/gemellaw07.VlanFrames", spec := "vlanFrames", plainKeys := false, apart := false, narrowed := true }
def VlanFramesUptoSaid : Prop := vlanFramesUptoRow.holds Try.pinned (OpenSpec.upto vlanFramesSpec)

/-- 'gemellaw07.VlanNative', WHERE WHAT IT READS IS OF BULK AT MOST 1048576: true; the input reads as it did. -/
def vlanNativeUptoRow : OpenClaim := { program := "ytdnidegmlplocaa", sum := "f85d2a315beb31fb5190749c3e44d7abc1c327e96603755d9c13d6628fd87b36", func := "gemel/gemellaw07.VlanNative", spec := "vlanNative", plainKeys := false, apart := false, narrowed := true }
def VlanNativeUptoSaid : Prop := vlanNativeUptoRow.holds Try.pinned (OpenSpec.upto vlanNativeSpec)

/-- 'gemellaw07.VlanThrough', WHERE WHAT IT READS IS OF BULK AT MOST 1048576: true; the input reads as it did. -/
def vlanThroughUptoRow : OpenClaim := { program := "ytdnidegmlplocaa", sum := "f85d2a315beb31fb5190749c3e44d7abc1c327e96603755d9c13d6628fd87b36", func := "gemel/gemellaw07.VlanThrough", spec := "vlanThrough", plainKeys := false, apart := false, narrowed := true }
def VlanThroughUptoSaid : Prop := vlanThroughUptoRow.holds Try.pinned (OpenSpec.upto vlanThroughSpec)

/-- 'gemellaw07.VlanApart', WHERE WHAT IT READS IS OF BULK AT MOST 1048576: true; the input reads as it did. -/
def vlanApartUptoRow : OpenClaim := { program := "ytdnidegmlplocaa", sum := "f85d2a315beb31fb5190749c3e44d7abc1c327e96603755d9c13d6628fd87b36", func := "gemel/gemellaw07.VlanApart", spec := "vlanApart", plainKeys := false, apart := false, narrowed := true }
def VlanApartUptoSaid : Prop := vlanApartUptoRow.holds Try.pinned (OpenSpec.upto vlanApartSpec)

/-- 'gemellaw07.VlanLast', WHERE WHAT IT READS IS OF BULK AT MOST 1048576: true; the input reads as it did. -/
def vlanLastUptoRow : OpenClaim := { program := "ytdnidegmlplocaa", sum := "f85d2a315beb31fb5190749c3e44d7abc1c327e96603755d9c13d6628fd87b36", func := "gemel/gemellaw07.VlanLast", spec := "vlanLast", plainKeys := false, apart := false, narrowed := true }
def VlanLastUptoSaid : Prop := vlanLastUptoRow.holds Try.pinned (OpenSpec.upto vlanLastSpec)

/-- 'gemellaw07.VlanScripts', WHERE WHAT IT READS IS OF BULK AT MOST 1048576: true; the input reads as it did. -/
def vlanScriptsUptoRow : OpenClaim := { program := "ytdnidegmlplocaa", sum := "f85d2a315beb31fb5190749c3e44d7abc1c327e96603755d9c13d6628fd87b36", func := "gemel/gemellaw07.VlanScripts", spec := "vlanScripts", unfollowed := true, recurses := true, plainKeys := false, apart := false, narrowed := true }
def VlanScriptsUptoSaid : Prop := vlanScriptsUptoRow.holds Try.pinned (OpenSpec.upto vlanScriptsSpec)

/-- 'gemellaw07.VlanVlans', WHERE WHAT IT READS IS OF BULK AT MOST 1048576: true; the input reads as it did. -/
def vlanVlansUptoRow : OpenClaim := { program := "ytdnidegmlplocaa", sum := "f85d2a315beb31fb5190749c3e44d7abc1c327e96603755d9c13d6628fd87b36", func := "gemel/gemellaw07.VlanVlans", spec := "vlanVlans", unfollowed := true, recurses := true, plainKeys := false, apart := false, narrowed := true }
def VlanVlansUptoSaid : Prop := vlanVlansUptoRow.holds Try.pinned (OpenSpec.upto vlanVlansSpec)

end Rows
end Go.Proofs.Ytdnidegmlplocaa
