/-
  No cell of these rows narrows 'for every input' (looked for: loops, veiled, ifaces, maps, wideKeys, modest, calm, conditions, laid).
  DERIVED. THE GIVEN ROWS OF THIS SEAT. 3 by the template 'for every input the law returns true; each argument reads behind the call as it read before'; 0 by the template 'total and deterministic' (their statements: YtoddhogpokemdaaTotals.lean).
  GIVEN WITH THE SEED: the statements are not yours to turn. If you find one false, say at which input.
  Laid BY PROGRAM, IN A SANDBOX (cutbox-rows.mjs): the forced cells as the released guide's own fill.sh prints them over the translation 58f3fbf97460e00d… (all of the seat's roots in one cut). By AI agents, Wed Nov 11 2026. No macro, syntax, notation, axiom, sorry.
-/
import Derived.Test.YtoddhogpokemdaaChecked
import GoSem.Claim
import GoSem.ClaimJoined
import GoSem.ClaimMapViews
import Derived.JoinedTies
import Derived.KernelRfl
namespace Go.Proofs.Ytoddhogpokemdaa
/- THE CELL 'sum', in the pinned program and in every row, IS THE sha256 OF THE DUMP (.gsa) THAT YtoddhogpokemdaaProg.lean LOADS. Nothing in Lean hashes anything: it is a label: what it is worth is what the hold of that sum in a sandbox is worth. -/
noncomputable def Try.pinned : Pinned := { name := "ytoddhogpokemdaa", sum := "58f3fbf97460e00d980a3f275c1e79d00bf13cda2c440011836e63376f9b53d8", checked := Try.checked }
namespace Rows
def none {H : Type} : Left H := { results := [], args := [] }

/-- 'gemellaw15.AggOne': WHATEVER THE INPUT: true; the input reads as it did. -/
def aggOneSpec : ChangeSpec := { name := "aggOne", fn := fun _ => fun
  | [d1, d2, d3] => { results := [.lit (.bool true)], args := [d1, d2, d3] }
  | _ => none }
def aggOneRow : OpenClaim := { program := "ytoddhogpokemdaa", sum := "58f3fbf97460e00d980a3f275c1e79d00bf13cda2c440011836e63376f9b53d8", func := "gemel/gemellaw15.AggOne", spec := "aggOne", unfollowed := true, recurses := true, apart := false }
def AggOneSaid : Prop := aggOneRow.holds Try.pinned (OpenSpec.ofChange aggOneSpec)

/-- ITS FALSE NEIGHBOUR: 'it returns false'. Refute it at one input. -/
def aggOneWrong : ChangeSpec := { name := "aggOne", fn := fun _ => fun
  | [d1, d2, d3] => { results := [.lit (.bool false)], args := [d1, d2, d3] }
  | _ => none }
def AggOneWrongFalsely : Prop := aggOneRow.holds Try.pinned (OpenSpec.ofChange aggOneWrong)

/-- 'gemellaw15.AggCalm': WHATEVER THE INPUT: true; the input reads as it did. -/
def aggCalmSpec : ChangeSpec := { name := "aggCalm", fn := fun _ => fun
  | [d1, d2, d3] => { results := [.lit (.bool true)], args := [d1, d2, d3] }
  | _ => none }
def aggCalmRow : OpenClaim := { program := "ytoddhogpokemdaa", sum := "58f3fbf97460e00d980a3f275c1e79d00bf13cda2c440011836e63376f9b53d8", func := "gemel/gemellaw15.AggCalm", spec := "aggCalm", unfollowed := true, recurses := true, apart := false }
def AggCalmSaid : Prop := aggCalmRow.holds Try.pinned (OpenSpec.ofChange aggCalmSpec)

/-- ITS FALSE NEIGHBOUR: 'it returns false'. Refute it at one input. -/
def aggCalmWrong : ChangeSpec := { name := "aggCalm", fn := fun _ => fun
  | [d1, d2, d3] => { results := [.lit (.bool false)], args := [d1, d2, d3] }
  | _ => none }
def AggCalmWrongFalsely : Prop := aggCalmRow.holds Try.pinned (OpenSpec.ofChange aggCalmWrong)

/-- 'gemellaw15.AggMeets': WHATEVER THE INPUT: true; the input reads as it did. -/
def aggMeetsSpec : ChangeSpec := { name := "aggMeets", fn := fun _ => fun
  | [d1, d2, d3] => { results := [.lit (.bool true)], args := [d1, d2, d3] }
  | _ => none }
def aggMeetsRow : OpenClaim := { program := "ytoddhogpokemdaa", sum := "58f3fbf97460e00d980a3f275c1e79d00bf13cda2c440011836e63376f9b53d8", func := "gemel/gemellaw15.AggMeets", spec := "aggMeets", unfollowed := true, recurses := true, apart := false }
def AggMeetsSaid : Prop := aggMeetsRow.holds Try.pinned (OpenSpec.ofChange aggMeetsSpec)

/-- ITS FALSE NEIGHBOUR: 'it returns false'. Refute it at one input. -/
def aggMeetsWrong : ChangeSpec := { name := "aggMeets", fn := fun _ => fun
  | [d1, d2, d3] => { results := [.lit (.bool false)], args := [d1, d2, d3] }
  | _ => none }
def AggMeetsWrongFalsely : Prop := aggMeetsRow.holds Try.pinned (OpenSpec.ofChange aggMeetsWrong)

/- THE SECOND FORM. 'bulk': how many values and letters a reading holds, each counted each time it is reached (what is shared counts as often as it is met; a slice's spare places count too). A statement '..UptoSaid' is the law's where the arguments, and the package variables that the reading takes, are together of bulk at most 1048576: NARROWER than '..Said'. Prove '..Said' where nothing that the law and all that it calls make is longer than what came in: it says more and counts as full. Else prove '..UptoSaid'. A law counts once. -/
mutual
def uptoBulk {H : Type} : DataW H → Nat
  | .lit (.string bytes) => bytes.length + 1
  | .lit _ => 1
  | .nil => 1
  | .ptr d => uptoBulk d + 1
  | .slice elems spare => uptoBulkAll elems + uptoBulkAll spare + 1
  | .agg parts => uptoBulkAll parts + 1
  | .iface _ d => uptoBulk d + 1
  | .map entries => uptoBulkEntries entries + 1
  | .held _ => 1
def uptoBulkAll {H : Type} : List (DataW H) → Nat
  | [] => 0
  | d :: r => uptoBulk d + uptoBulkAll r
def uptoBulkEntries {H : Type} : List (Lit × DataW H) → Nat
  | [] => 0
  | x :: r => uptoBulkEntry x + uptoBulkEntries r
def uptoBulkEntry {H : Type} : Lit × DataW H → Nat
  | (.string bytes, d) => bytes.length + uptoBulk d + 1
  | (_, d) => uptoBulk d + 1
 end
def uptoSmall : (H : Type) → List (DataW H) → Bool := fun _ ds => decide (uptoBulkAll ds ≤ 1048576)
def OpenSpec.upto (s : _root_.Go.ChangeSpec) : _root_.Go.OpenSpec := { _root_.Go.OpenSpec.ofChange s with cond := some uptoSmall }

/-- 'gemellaw15.AggOne', WHERE WHAT IT READS IS OF BULK AT MOST 1048576: true; the input reads as it did. -/
def aggOneUptoRow : OpenClaim := { program := "ytoddhogpokemdaa", sum := "58f3fbf97460e00d980a3f275c1e79d00bf13cda2c440011836e63376f9b53d8", func := "gemel/gemellaw15.AggOne", spec := "aggOne", unfollowed := true, recurses := true, apart := false, narrowed := true }
def AggOneUptoSaid : Prop := aggOneUptoRow.holds Try.pinned (OpenSpec.upto aggOneSpec)

/-- 'gemellaw15.AggCalm', WHERE WHAT IT READS IS OF BULK AT MOST 1048576: true; the input reads as it did. -/
def aggCalmUptoRow : OpenClaim := { program := "ytoddhogpokemdaa", sum := "58f3fbf97460e00d980a3f275c1e79d00bf13cda2c440011836e63376f9b53d8", func := "gemel/gemellaw15.AggCalm", spec := "aggCalm", unfollowed := true, recurses := true, apart := false, narrowed := true }
def AggCalmUptoSaid : Prop := aggCalmUptoRow.holds Try.pinned (OpenSpec.upto aggCalmSpec)

/-- 'gemellaw15.AggMeets', WHERE WHAT IT READS IS OF BULK AT MOST 1048576: true; the input reads as it did. -/
def aggMeetsUptoRow : OpenClaim := { program := "ytoddhogpokemdaa", sum := "58f3fbf97460e00d980a3f275c1e79d00bf13cda2c440011836e63376f9b53d8", func := "gemel/gemellaw15.AggMeets", spec := "aggMeets", unfollowed := true, recurses := true, apart := false, narrowed := true }
def AggMeetsUptoSaid : Prop := aggMeetsUptoRow.holds Try.pinned (OpenSpec.upto aggMeetsSpec)

end Rows
end Go.Proofs.Ytoddhogpokemdaa
