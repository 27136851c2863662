/-
  No cell of these rows narrows 'for every input' (looked for: loops, veiled, ifaces, maps, wideKeys, modest, calm, conditions, laid).
  DERIVED. THE GIVEN ROWS OF THIS SEAT. 2 by the template 'for every input the law returns true; each argument reads behind the call as it read before'; 0 by the template 'total and deterministic' (their statements: YtclkdldkebjgpaaTotals.lean).
  GIVEN WITH THE SEED: the statements are not yours to turn. If you find one false, say at which input.
  Laid BY PROGRAM, IN A SANDBOX (cutbox-rows.mjs): the forced cells as the released guide's own fill.sh prints them over the translation 2ab5acfbbe0d62a8… (all of the seat's roots in one cut). By AI agents, Wed Nov 11 2026. No macro, syntax, notation, axiom, sorry.
-/
import Derived.Test.YtclkdldkebjgpaaChecked
import GoSem.Claim
import GoSem.ClaimJoined
import GoSem.ClaimMapViews
import Derived.JoinedTies
import Derived.KernelRfl
namespace Go.Proofs.Ytclkdldkebjgpaa
/- THE CELL 'sum', in the pinned program and in every row, IS THE sha256 OF THE DUMP (.gsa) THAT YtclkdldkebjgpaaProg.lean LOADS. Nothing in Lean hashes anything: it is a label: what it is worth is what the hold of that sum in a sandbox is worth. -/
noncomputable def Try.pinned : Pinned := { name := "ytclkdldkebjgpaa", sum := "2ab5acfbbe0d62a8cd597b53809b7524948f8cad8195f8ac92e7831345a3e69b", checked := Try.checked }
namespace Rows
def none {H : Type} : Left H := { results := [], args := [] }

/-- 'gemeltop.TopSync': WHATEVER THE INPUT: true; the input reads as it did. -/
def topSyncSpec : ChangeSpec := { name := "topSync", fn := fun _ => fun
  | [d1, d2] => { results := [.lit (.bool true)], args := [d1, d2] }
  | _ => none }
def topSyncRow : OpenClaim := { program := "ytclkdldkebjgpaa", sum := "2ab5acfbbe0d62a8cd597b53809b7524948f8cad8195f8ac92e7831345a3e69b", func := "gemel/gemeltop.TopSync", spec := "topSync", inPlace := ["internal/bytealg.Compare"], unfollowed := true, recurses := true, plainKeys := false, apart := false }
def TopSyncSaid : Prop := topSyncRow.holds Try.pinned (OpenSpec.ofChange topSyncSpec)

/-- ITS FALSE NEIGHBOUR: 'it returns false'. Refute it at one input. -/
def topSyncWrong : ChangeSpec := { name := "topSync", fn := fun _ => fun
  | [d1, d2] => { results := [.lit (.bool false)], args := [d1, d2] }
  | _ => none }
def TopSyncWrongFalsely : Prop := topSyncRow.holds Try.pinned (OpenSpec.ofChange topSyncWrong)

/-- 'gemeltop.TopOneSystem': WHATEVER THE INPUT: true; the input reads as it did. -/
def topOneSystemSpec : ChangeSpec := { name := "topOneSystem", fn := fun _ => fun
  | [d1, d2, d3] => { results := [.lit (.bool true)], args := [d1, d2, d3] }
  | _ => none }
def topOneSystemRow : OpenClaim := { program := "ytclkdldkebjgpaa", sum := "2ab5acfbbe0d62a8cd597b53809b7524948f8cad8195f8ac92e7831345a3e69b", func := "gemel/gemeltop.TopOneSystem", spec := "topOneSystem", unfollowed := true, recurses := true, plainKeys := false, apart := false }
def TopOneSystemSaid : Prop := topOneSystemRow.holds Try.pinned (OpenSpec.ofChange topOneSystemSpec)

/-- ITS FALSE NEIGHBOUR: 'it returns false'. Refute it at one input. -/
def topOneSystemWrong : ChangeSpec := { name := "topOneSystem", fn := fun _ => fun
  | [d1, d2, d3] => { results := [.lit (.bool false)], args := [d1, d2, d3] }
  | _ => none }
def TopOneSystemWrongFalsely : Prop := topOneSystemRow.holds Try.pinned (OpenSpec.ofChange topOneSystemWrong)

/- THE SECOND FORM. 'bulk': how many values and letters a reading holds, each counted each time it is reached (what is shared counts as often as it is met; a slice's spare places count too). A statement '..UptoSaid' is the law's where the arguments, and the package variables that the reading takes, are together of bulk at most 1048576: NARROWER than '..Said'. Prove '..Said' where nothing that the law and all that it calls make is longer than what came in: it says more and counts as full. Else prove '..UptoSaid'. A law counts once. -/
mutual
def uptoBulk {H : Type} : DataW H → Nat
  | .lit (.string bytes) => bytes.length + 1
  | .lit _ => 1
  | .nil => 1
  | .ptr d => uptoBulk d + 1
  | .slice elems spare => uptoBulkAll elems + uptoBulkAll spare + 1
  | .agg parts => uptoBulkAll parts + 1
  | .iface _ d => uptoBulk d + 1
  | .map entries => uptoBulkEntries entries + 1
  | .held _ => 1
def uptoBulkAll {H : Type} : List (DataW H) → Nat
  | [] => 0
  | d :: r => uptoBulk d + uptoBulkAll r
def uptoBulkEntries {H : Type} : List (Lit × DataW H) → Nat
  | [] => 0
  | x :: r => uptoBulkEntry x + uptoBulkEntries r
def uptoBulkEntry {H : Type} : Lit × DataW H → Nat
  | (.string bytes, d) => bytes.length + uptoBulk d + 1
  | (_, d) => uptoBulk d + 1
 end
def uptoSmall : (H : Type) → List (DataW H) → Bool := fun _ ds => decide (uptoBulkAll ds ≤ 1048576)
def OpenSpec.upto (s : _root_.Go.ChangeSpec) : _root_.Go.OpenSpec := { _root_.Go.OpenSpec.ofChange s with cond := some uptoSmall }

/-- 'gemeltop.TopSync', WHERE WHAT IT READS IS OF BULK AT MOST 1048576: true; the input reads as it did. -/
def topSyncUptoRow : OpenClaim := { program := "ytclkdldkebjgpaa", sum := "2ab5acfbbe0d62a8cd597b53809b7524948f8cad8195f8ac92e7831345a3e69b", func := "gemel/gemeltop.TopSync", spec := "topSync", inPlace := ["internal/bytealg.Compare"], unfollowed := true, recurses := true, plainKeys := false, apart := false, narrowed := true }
def TopSyncUptoSaid : Prop := topSyncUptoRow.holds Try.pinned (OpenSpec.upto topSyncSpec)

/-- 'gemeltop.TopOneSystem', WHERE WHAT IT READS IS OF BULK AT MOST 1048576: true; the input reads as it did. -/
def topOneSystemUptoRow : OpenClaim := { program := "ytclkdldkebjgpaa", sum := "2ab5acfbbe0d62a8cd597b53809b7524948f8cad8195f8ac92e7831345a3e69b", func := "gemel/gemeltop.TopOneSystem", spec := "topOneSystem", unfollowed := true, recurses := true, plainKeys := false, apart := false, narrowed := true }
def TopOneSystemUptoSaid : Prop := topOneSystemUptoRow.holds Try.pinned (OpenSpec.upto topOneSystemSpec)

end Rows
end Go.Proofs.Ytclkdldkebjgpaa
