/-
  No cell of these rows narrows 'for every input' (looked for: loops, veiled, ifaces, maps, wideKeys, modest, calm, conditions, laid).
  DERIVED. THE GIVEN ROWS OF THIS SEAT. 2 by the template 'for every input the law returns true; each argument reads behind the call as it read before'; 0 by the template 'total and deterministic' (their statements: YtadgfomgnohokaaGreatTotals.lean).
  GIVEN WITH THE SEED: the statements are not yours to turn. If you find one false, say at which input.
  Laid BY PROGRAM, IN A SANDBOX (cutbox-rows.mjs): the forced cells as the released guide's own fill.sh prints them over the translation 5b168bbcc675b6e8… (all of the seat's roots in one cut). By AI agents, Wed Nov 11 2026. No macro, syntax, notation, axiom, sorry.
-/
import Derived.Test.YtadgfomgnohokaaGreatChecked
import GoSem.Claim
import GoSem.ClaimJoined
import GoSem.ClaimMapViews
import Derived.JoinedTies
import Derived.KernelRfl
namespace Go.Proofs.YtadgfomgnohokaaGreat
/- THE CELL 'sum', in the pinned program and in every row, IS THE sha256 OF THE DUMP (.gsa) THAT YtadgfomgnohokaaGreatProg.lean LOADS. Nothing in Lean hashes anything: it is a label: what it is worth is what the hold of that sum in a sandbox is worth. -/
noncomputable def Tryz.pinned : Pinned := { name := "ytadgfomgnohokaagreat", sum := "5b168bbcc675b6e8b96ba05dc7f9b81af15e2f5b4e9953614318b8714e03a4a7", checked := Tryz.checked }
namespace Rows
def none {H : Type} : Left H := { results := [], args := [] }

/-- 'gemellaw18.SpanScripts': WHATEVER THE INPUT: true; the input reads as it did. -/
def spanScriptsSpec : ChangeSpec := { name := "spanScripts", fn := fun _ => fun
  | [d1, d2, d3] => { results := [.lit (.bool true)], args := [d1, d2, d3] }
  | _ => none }
def spanScriptsRow : OpenClaim := { program := "ytadgfomgnohokaagreat", sum := "5b168bbcc675b6e8b96ba05dc7f9b81af15e2f5b4e9953614318b8714e03a4a7", func := "gemel/gemellaw18.SpanScripts", spec := "spanScripts", inPlace := ["internal/bytealg.Compare"], unfollowed := true, recurses := true, apart := false }
def SpanScriptsSaid : Prop := spanScriptsRow.holds Tryz.pinned (OpenSpec.ofChange spanScriptsSpec)

/-- ITS FALSE NEIGHBOUR: 'it returns false'. Refute it at one input. -/
def spanScriptsWrong : ChangeSpec := { name := "spanScripts", fn := fun _ => fun
  | [d1, d2, d3] => { results := [.lit (.bool false)], args := [d1, d2, d3] }
  | _ => none }
def SpanScriptsWrongFalsely : Prop := spanScriptsRow.holds Tryz.pinned (OpenSpec.ofChange spanScriptsWrong)

/-- 'gemellaw18.SpanStates': WHATEVER THE INPUT: true; the input reads as it did. -/
def spanStatesSpec : ChangeSpec := { name := "spanStates", fn := fun _ => fun
  | [d1, d2, d3] => { results := [.lit (.bool true)], args := [d1, d2, d3] }
  | _ => none }
def spanStatesRow : OpenClaim := { program := "ytadgfomgnohokaagreat", sum := "5b168bbcc675b6e8b96ba05dc7f9b81af15e2f5b4e9953614318b8714e03a4a7", func := "gemel/gemellaw18.SpanStates", spec := "spanStates", inPlace := ["internal/bytealg.Compare"], unfollowed := true, recurses := true, apart := false }
def SpanStatesSaid : Prop := spanStatesRow.holds Tryz.pinned (OpenSpec.ofChange spanStatesSpec)

/-- ITS FALSE NEIGHBOUR: 'it returns false'. Refute it at one input. -/
def spanStatesWrong : ChangeSpec := { name := "spanStates", fn := fun _ => fun
  | [d1, d2, d3] => { results := [.lit (.bool false)], args := [d1, d2, d3] }
  | _ => none }
def SpanStatesWrongFalsely : Prop := spanStatesRow.holds Tryz.pinned (OpenSpec.ofChange spanStatesWrong)

/- THE SECOND FORM. 'bulk': how many values and letters a reading holds, each counted each time it is reached (what is shared counts as often as it is met; a slice's spare places count too). A statement '..UptoSaid' is the law's where the arguments, and the package variables that the reading takes, are together of bulk at most 1048576: NARROWER than '..Said'. Prove '..Said' where nothing that the law and all that it calls make is longer than what came in: it says more and counts as full. Else prove '..UptoSaid'. A law counts once. -/
mutual
def uptoBulk {H : Type} : DataW H → Nat
  | .lit (.string bytes) => bytes.length + 1
  | .lit _ => 1
  | .nil => 1
  | .ptr d => uptoBulk d + 1
  | .slice elems spare => uptoBulkAll elems + uptoBulkAll spare + 1
  | .agg parts => uptoBulkAll parts + 1
  | .iface _ d => uptoBulk d + 1
  | .map entries => uptoBulkEntries entries + 1
  | .held _ => 1
def uptoBulkAll {H : Type} : List (DataW H) → Nat
  | [] => 0
  | d :: r => uptoBulk d + uptoBulkAll r
def uptoBulkEntries {H : Type} : List (Lit × DataW H) → Nat
  | [] => 0
  | x :: r => uptoBulkEntry x + uptoBulkEntries r
def uptoBulkEntry {H : Type} : Lit × DataW H → Nat
  | (.string bytes, d) => bytes.length + uptoBulk d + 1
  | (_, d) => uptoBulk d + 1
 end
def uptoSmall : (H : Type) → List (DataW H) → Bool := fun _ ds => decide (uptoBulkAll ds ≤ 1048576)
def OpenSpec.upto (s : _root_.Go.ChangeSpec) : _root_.Go.OpenSpec := { _root_.Go.OpenSpec.ofChange s with cond := some uptoSmall }

/-- 'gemellaw18.SpanScripts', WHERE WHAT IT READS IS OF BULK AT MOST 1048576: true; the input reads as it did. -/
def spanScriptsUptoRow : OpenClaim := { program := "ytadgfomgnohokaagreat", sum := "5b168bbcc675b6e8b96ba05dc7f9b81af15e2f5b4e9953614318b8714e03a4a7", func := "gemel/gemellaw18.SpanScripts", spec := "spanScripts", inPlace := ["internal/bytealg.Compare"], unfollowed := true, recurses := true, apart := false, narrowed := true }
def SpanScriptsUptoSaid : Prop := spanScriptsUptoRow.holds Tryz.pinned (OpenSpec.upto spanScriptsSpec)

/-- 'gemellaw18.SpanStates', WHERE WHAT IT READS IS OF BULK AT MOST 1048576: true; the input reads as it did. -/
def spanStatesUptoRow : OpenClaim := { program := "ytadgfomgnohokaagreat", sum := "5b168bbcc675b6e8b96ba05dc7f9b81af15e2f5b4e9953614318b8714e03a4a7", func := "gemel/gemellaw18.SpanStates", spec := "spanStates", inPlace := ["internal/bytealg.Compare"], unfollowed := true, recurses := true, apart := false, narrowed := true }
def SpanStatesUptoSaid : Prop := spanStatesUptoRow.holds Tryz.pinned (OpenSpec.upto spanStatesSpec)

end Rows
end Go.Proofs.YtadgfomgnohokaaGreat
