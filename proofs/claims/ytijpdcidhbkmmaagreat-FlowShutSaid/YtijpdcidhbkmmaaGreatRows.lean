/-
  No cell of these rows narrows 'for every input' (looked for: loops, veiled, ifaces, maps, wideKeys, modest, calm, conditions, laid).
  DERIVED. THE GIVEN ROWS OF THIS SEAT. 7 by the template 'for every input the law returns true; each argument reads behind the call as it read before'; 0 by the template 'total and deterministic' (their statements: YtijpdcidhbkmmaaGreatTotals.lean).
  GIVEN WITH THE SEED: the statements are not yours to turn. If you find one false, say at which input.
  Laid BY PROGRAM, IN A SANDBOX (cutbox-rows.mjs): the forced cells as the released guide's own fill.sh prints them over the translation f62c7606f5468c66… (all of the seat's roots in one cut). By AI agents, Wed Nov 11 2026. No macro, syntax, notation, axiom, sorry.
-/
import Derived.Test.YtijpdcidhbkmmaaGreatChecked
import GoSem.Claim
import GoSem.ClaimJoined
import GoSem.ClaimMapViews
import Derived.JoinedTies
import Derived.KernelRfl
namespace Go.Proofs.YtijpdcidhbkmmaaGreat
/- THE CELL 'sum', in the pinned program and in every row, IS THE sha256 OF THE DUMP (.gsa) THAT YtijpdcidhbkmmaaGreatProg.lean LOADS. Nothing in Lean hashes anything: it is a label: what it is worth is what the hold of that sum in a sandbox is worth. -/
noncomputable def Tryz.pinned : Pinned := { name := "ytijpdcidhbkmmaagreat", sum := "f62c7606f5468c66960202e45dd42a15263ce2a989101760071e9483ed5e8fa3", checked := Tryz.checked }
namespace Rows
def none {H : Type} : Left H := { results := [], args := [] }

/-- 'gemellaw12.FlowKnown': WHATEVER THE INPUT: true; the input reads as it did. -/
def flowKnownSpec : ChangeSpec := { name := "flowKnown", fn := fun _ => fun
  | [d1, d2] => { results := [.lit (.bool true)], args := [d1, d2] }
  | _ => none }
def flowKnownRow : OpenClaim := { program := "ytijpdcidhbkmmaagreat", sum := "f62c7606f5468c66960202e45dd42a15263ce2a989101760071e9483ed5e8fa3", func := "gemel/gemellaw12.FlowKnown", spec := "flowKnown", inPlace := ["internal/bytealg.Compare"], unfollowed := true, recurses := true, plainKeys := false, apart := false }
def FlowKnownSaid : Prop := flowKnownRow.holds Tryz.pinned (OpenSpec.ofChange flowKnownSpec)

/-- ITS FALSE NEIGHBOUR: 'it returns false'. Refute it at one input. -/
def flowKnownWrong : ChangeSpec := { name := "flowKnown", fn := fun _ => fun
  | [d1, d2] => { results := [.lit (.bool false)], args := [d1, d2] }
  | _ => none }
def FlowKnownWrongFalsely : Prop := flowKnownRow.holds Tryz.pinned (OpenSpec.ofChange flowKnownWrong)

/-- 'gemellaw12.FlowLearns': WHATEVER THE INPUT: true; the input reads as it did. -/
def flowLearnsSpec : ChangeSpec := { name := "flowLearns", fn := fun _ => fun
  | [d1, d2] => { results := [.lit (.bool true)], args := [d1, d2] }
  | _ => none }
def flowLearnsRow : OpenClaim := { program := "ytijpdcidhbkmmaagreat", sum := "f62c7606f5468c66960202e45dd42a15263ce2a989101760071e9483ed5e8fa3", func := "gemel/gemellaw12.FlowLearns", spec := "flowLearns", inPlace := ["internal/bytealg.Compare"], unfollowed := true, recurses := true, plainKeys := false, apart := false }
def FlowLearnsSaid : Prop := flowLearnsRow.holds Tryz.pinned (OpenSpec.ofChange flowLearnsSpec)

/-- ITS FALSE NEIGHBOUR: 'it returns false'. Refute it at one input. -/
def flowLearnsWrong : ChangeSpec := { name := "flowLearns", fn := fun _ => fun
  | [d1, d2] => { results := [.lit (.bool false)], args := [d1, d2] }
  | _ => none }
def FlowLearnsWrongFalsely : Prop := flowLearnsRow.holds Tryz.pinned (OpenSpec.ofChange flowLearnsWrong)

/-- 'gemellaw12.FlowAgain': WHATEVER THE INPUT: true; the input reads as it did. -/
def flowAgainSpec : ChangeSpec := { name := "flowAgain", fn := fun _ => fun
  | [d1, d2] => { results := [.lit (.bool true)], args := [d1, d2] }
  | _ => none }
def flowAgainRow : OpenClaim := { program := "ytijpdcidhbkmmaagreat", sum := "f62c7606f5468c66960202e45dd42a15263ce2a989101760071e9483ed5e8fa3", func := "gemel/gemellaw12.FlowAgain", spec := "flowAgain", inPlace := ["internal/bytealg.Compare"], unfollowed := true, recurses := true, plainKeys := false, apart := false }
def FlowAgainSaid : Prop := flowAgainRow.holds Tryz.pinned (OpenSpec.ofChange flowAgainSpec)

/-- ITS FALSE NEIGHBOUR: 'it returns false'. Refute it at one input. -/
def flowAgainWrong : ChangeSpec := { name := "flowAgain", fn := fun _ => fun
  | [d1, d2] => { results := [.lit (.bool false)], args := [d1, d2] }
  | _ => none }
def FlowAgainWrongFalsely : Prop := flowAgainRow.holds Tryz.pinned (OpenSpec.ofChange flowAgainWrong)

/-- 'gemellaw12.FlowShut': WHATEVER THE INPUT: true; the input reads as it did. -/
def flowShutSpec : ChangeSpec := { name := "flowShut", fn := fun _ => fun
  | [d1, d2, d3] => { results := [.lit (.bool true)], args := [d1, d2, d3] }
  | _ => none }
def flowShutRow : OpenClaim := { program := "ytijpdcidhbkmmaagreat", sum := "f62c7606f5468c66960202e45dd42a15263ce2a989101760071e9483ed5e8fa3", func := "gemel/gemellaw12.FlowShut", spec := "flowShut", inPlace := ["internal/bytealg.Compare"], unfollowed := true, recurses := true, plainKeys := false, apart := false }
def FlowShutSaid : Prop := flowShutRow.holds Tryz.pinned (OpenSpec.ofChange flowShutSpec)

/-- ITS FALSE NEIGHBOUR: 'it returns false'. Refute it at one input. -/
def flowShutWrong : ChangeSpec := { name := "flowShut", fn := fun _ => fun
  | [d1, d2, d3] => { results := [.lit (.bool false)], args := [d1, d2, d3] }
  | _ => none }
def FlowShutWrongFalsely : Prop := flowShutRow.holds Tryz.pinned (OpenSpec.ofChange flowShutWrong)

/-- 'gemellaw12.FlowScripts': WHATEVER THE INPUT: true; the input reads as it did. -/
def flowScriptsSpec : ChangeSpec := { name := "flowScripts", fn := fun _ => fun
  | [d1, d2] => { results := [.lit (.bool true)], args := [d1, d2] }
  | _ => none }
def flowScriptsRow : OpenClaim := { program := "ytijpdcidhbkmmaagreat", sum := "f62c7606f5468c66960202e45dd42a15263ce2a989101760071e9483ed5e8fa3", func := "gemel/gemellaw12.FlowScripts", spec := "flowScripts", inPlace := ["internal/bytealg.Compare"], unfollowed := true, recurses := true, plainKeys := false, apart := false }
def FlowScriptsSaid : Prop := flowScriptsRow.holds Tryz.pinned (OpenSpec.ofChange flowScriptsSpec)

/-- ITS FALSE NEIGHBOUR: 'it returns false'. Refute it at one input. -/
def flowScriptsWrong : ChangeSpec := { name := "flowScripts", fn := fun _ => fun
  | [d1, d2] => { results := [.lit (.bool false)], args := [d1, d2] }
  | _ => none }
def FlowScriptsWrongFalsely : Prop := flowScriptsRow.holds Tryz.pinned (OpenSpec.ofChange flowScriptsWrong)

/-- 'gemellaw12.FlowRelays': WHATEVER THE INPUT: true; the input reads as it did. -/
def flowRelaysSpec : ChangeSpec := { name := "flowRelays", fn := fun _ => fun
  | [d1, d2] => { results := [.lit (.bool true)], args := [d1, d2] }
  | _ => none }
def flowRelaysRow : OpenClaim := { program := "ytijpdcidhbkmmaagreat", sum := "f62c7606f5468c66960202e45dd42a15263ce2a989101760071e9483ed5e8fa3", func := "gemel/gemellaw12.FlowRelays", spec := "flowRelays", inPlace := ["internal/bytealg.Compare"], unfollowed := true, recurses := true, plainKeys := false, apart := false }
def FlowRelaysSaid : Prop := flowRelaysRow.holds Tryz.pinned (OpenSpec.ofChange flowRelaysSpec)

/-- ITS FALSE NEIGHBOUR: 'it returns false'. Refute it at one input. -/
def flowRelaysWrong : ChangeSpec := { name := "flowRelays", fn := fun _ => fun
  | [d1, d2] => { results := [.lit (.bool false)], args := [d1, d2] }
  | _ => none }
def FlowRelaysWrongFalsely : Prop := flowRelaysRow.holds Tryz.pinned (OpenSpec.ofChange flowRelaysWrong)

/-- 'gemellaw12.FlowOnce': WHATEVER THE INPUT: true; the input reads as it did. -/
def flowOnceSpec : ChangeSpec := { name := "flowOnce", fn := fun _ => fun
  | [d1, d2] => { results := [.lit (.bool true)], args := [d1, d2] }
  | _ => none }
def flowOnceRow : OpenClaim := { program := "ytijpdcidhbkmmaagreat", sum := "f62c7606f5468c66960202e45dd42a15263ce2a989101760071e9483ed5e8fa3", func := "gemel/gemellaw12.FlowOnce", spec := "flowOnce", inPlace := ["internal/bytealg.Compare"], unfollowed := true, recurses := true, plainKeys := false, apart := false }
def FlowOnceSaid : Prop := flowOnceRow.holds Tryz.pinned (OpenSpec.ofChange flowOnceSpec)

/-- ITS FALSE NEIGHBOUR: 'it returns false'. Refute it at one input. -/
def flowOnceWrong : ChangeSpec := { name := "flowOnce", fn := fun _ => fun
  | [d1, d2] => { results := [.lit (.bool false)], args := [d1, d2] }
  | _ => none }
def FlowOnceWrongFalsely : Prop := flowOnceRow.holds Tryz.pinned (OpenSpec.ofChange flowOnceWrong)

/- THE SECOND FORM. 'bulk': how many values and letters a reading holds, each counted each time it is reached (what is shared counts as often as it is met; a slice's spare places count too). A statement '..UptoSaid' is the law's where the arguments, and the package variables that the reading takes, are together of bulk at most 1048576: NARROWER than '..Said'. Prove '..Said' where nothing that the law and all that it calls make is longer than what came in: it says more and counts as full. Else prove '..UptoSaid'. A law counts once. -/
mutual
def uptoBulk {H : Type} : DataW H → Nat
  | .lit (.string bytes) => bytes.length + 1
  | .lit _ => 1
  | .nil => 1
  | .ptr d => uptoBulk d + 1
  | .slice elems spare => uptoBulkAll elems + uptoBulkAll spare + 1
  | .agg parts => uptoBulkAll parts + 1
  | .iface _ d => uptoBulk d + 1
  | .map entries => uptoBulkEntries entries + 1
  | .held _ => 1
def uptoBulkAll {H : Type} : List (DataW H) → Nat
  | [] => 0
  | d :: r => uptoBulk d + uptoBulkAll r
def uptoBulkEntries {H : Type} : List (Lit × DataW H) → Nat
  | [] => 0
  | x :: r => uptoBulkEntry x + uptoBulkEntries r
def uptoBulkEntry {H : Type} : Lit × DataW H → Nat
  | (.string bytes, d) => bytes.length + uptoBulk d + 1
  | (_, d) => uptoBulk d + 1
 end
def uptoSmall : (H : Type) → List (DataW H) → Bool := fun _ ds => decide (uptoBulkAll ds ≤ 1048576)
def OpenSpec.upto (s : _root_.Go.ChangeSpec) : _root_.Go.OpenSpec := { _root_.Go.OpenSpec.ofChange s with cond := some uptoSmall }

/-- 'gemellaw12.FlowKnown', WHERE WHAT IT READS IS OF BULK AT MOST 1048576: true; the input reads as it did. -/
def flowKnownUptoRow : OpenClaim := { program := "ytijpdcidhbkmmaagreat", sum := "f62c7606f5468c66960202e45dd42a15263ce2a989101760071e9483ed5e8fa3", func := "gemel/gemellaw12.FlowKnown", spec := "flowKnown", inPlace := ["internal/bytealg.Compare"], unfollowed := true, recurses := true, plainKeys := false, apart := false, narrowed := true }
def FlowKnownUptoSaid : Prop := flowKnownUptoRow.holds Tryz.pinned (OpenSpec.upto flowKnownSpec)

/-- 'gemellaw12.FlowLearns', WHERE WHAT IT READS IS OF BULK AT MOST 1048576: true; the input reads as it did. -/
def flowLearnsUptoRow : OpenClaim := { program := "ytijpdcidhbkmmaagreat", sum := "f62c7606f5468c66960202e45dd42a15263ce2a989101760071e9483ed5e8fa3", func := "gemel/gemellaw12.FlowLearns", spec := "flowLearns", inPlace := ["internal/bytealg.Compare"], unfollowed := true, recurses := true, plainKeys := false, apart := false, narrowed := true }
def FlowLearnsUptoSaid : Prop := flowLearnsUptoRow.holds Tryz.pinned (OpenSpec.upto flowLearnsSpec)

/-- 'gemellaw12.FlowAgain', WHERE WHAT IT READS IS OF BULK AT MOST 1048576: true; the input reads as it did. -/
def flowAgainUptoRow : OpenClaim := { program := "ytijpdcidhbkmmaagreat", sum := "f62c7606f5468c66960202e45dd42a15263ce2a989101760071e9483ed5e8fa3", func := "gemel/gemellaw12.FlowAgain", spec := "flowAgain", inPlace := ["internal/bytealg.Compare"], unfollowed := true, recurses := true, plainKeys := false, apart := false, narrowed := true }
def FlowAgainUptoSaid : Prop := flowAgainUptoRow.holds Tryz.pinned (OpenSpec.upto flowAgainSpec)

/-- 'gemellaw12.FlowShut', WHERE WHAT IT READS IS OF BULK AT MOST 1048576: true; the input reads as it did. -/
def flowShutUptoRow : OpenClaim := { program := "ytijpdcidhbkmmaagreat", sum := "f62c7606f5468c66960202e45dd42a15263ce2a989101760071e9483ed5e8fa3", func := "gemel/gemellaw12.FlowShut", spec := "flowShut", inPlace := ["internal/bytealg.Compare"], unfollowed := true, recurses := true, plainKeys := false, apart := false, narrowed := true }
def FlowShutUptoSaid : Prop := flowShutUptoRow.holds Tryz.pinned (OpenSpec.upto flowShutSpec)

/-- 'gemellaw12.FlowScripts', WHERE WHAT IT READS IS OF BULK AT MOST 1048576: true; the input reads as it did. -/
def flowScriptsUptoRow : OpenClaim := { program := "ytijpdcidhbkmmaagreat", sum := "f62c7606f5468c66960202e45dd42a15263ce2a989101760071e9483ed5e8fa3", func := "gemel/gemellaw12.FlowScripts", spec := "flowScripts", inPlace := ["internal/bytealg.Compare"], unfollowed := true, recurses := true, plainKeys := false, apart := false, narrowed := true }
def FlowScriptsUptoSaid : Prop := flowScriptsUptoRow.holds Tryz.pinned (OpenSpec.upto flowScriptsSpec)

/-- 'gemellaw12.FlowRelays', WHERE WHAT IT READS IS OF BULK AT MOST 1048576: true; the input reads as it did. -/
def flowRelaysUptoRow : OpenClaim := { program := "ytijpdcidhbkmmaagreat", sum := "f62c7606f5468c66960202e45dd42a15263ce2a989101760071e9483ed5e8fa3", func := "gemel/gemellaw12.FlowRelays", spec := "flowRelays", inPlace := ["internal/bytealg.Compare"], unfollowed := true, recurses := true, plainKeys := false, apart := false, narrowed := true }
def FlowRelaysUptoSaid : Prop := flowRelaysUptoRow.holds Tryz.pinned (OpenSpec.upto flowRelaysSpec)

/-- 'gemellaw12.FlowOnce', WHERE WHAT IT READS IS OF BULK AT MOST 1048576: true; the input reads as it did. -/
def flowOnceUptoRow : OpenClaim := { program := "ytijpdcidhbkmmaagreat", sum := "f62c7606f5468c66960202e45dd42a15263ce2a989101760071e9483ed5e8fa3", func := "gemel/gemellaw12.FlowOnce", spec := "flowOnce", inPlace := ["internal/bytealg.Compare"], unfollowed := true, recurses := true, plainKeys := false, apart := false, narrowed := true }
def FlowOnceUptoSaid : Prop := flowOnceUptoRow.holds Tryz.pinned (OpenSpec.upto flowOnceSpec)

end Rows
end Go.Proofs.YtijpdcidhbkmmaaGreat
