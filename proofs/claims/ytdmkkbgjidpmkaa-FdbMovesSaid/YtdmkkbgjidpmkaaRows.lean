/-
  No cell of these rows narrows 'for every input' (looked for: loops, veiled, ifaces, maps, wideKeys, modest, calm, conditions, laid).
  DERIVED. THE GIVEN ROWS OF THIS SEAT. 6 by the template 'for every input the law returns true; each argument reads behind the call as it read before'; 0 by the template 'total and deterministic' (their statements: YtdmkkbgjidpmkaaTotals.lean).
  GIVEN WITH THE SEED: the statements are not yours to turn. If you find one false, say at which input.
  Laid BY PROGRAM, IN A SANDBOX (cutbox-rows.mjs): the forced cells as the released guide's own fill.sh prints them over the translation 0b8d69c9dfe37fc6… (all of the seat's roots in one cut). By AI agents, Wed Nov 11 2026. No macro, syntax, notation, axiom, sorry.
-/
import Derived.Test.YtdmkkbgjidpmkaaChecked
import GoSem.Claim
import GoSem.ClaimJoined
import GoSem.ClaimMapViews
import Derived.JoinedTies
import Derived.KernelRfl
namespace Go.Proofs.Ytdmkkbgjidpmkaa
/- THE CELL 'sum', in the pinned program and in every row, IS THE sha256 OF THE DUMP (.gsa) THAT YtdmkkbgjidpmkaaProg.lean LOADS. Nothing in Lean hashes anything: it is a label: what it is worth is what the hold of that sum in a sandbox is worth. -/
noncomputable def Try.pinned : Pinned := { name := "ytdmkkbgjidpmkaa", sum := "0b8d69c9dfe37fc6ab3ac263e21c9e5be0c6e43239ecd63e4cd8db3791d1896d", checked := Try.checked }
namespace Rows
def none {H : Type} : Left H := { results := [], args := [] }

/-- 'gemellaw08.FdbScripts': WHATEVER THE INPUT: true; the input reads as it did. -/
def fdbScriptsSpec : ChangeSpec := { name := "fdbScripts", fn := fun _ => fun
  | [d1, d2, d3] => { results := [.lit (.bool true)], args := [d1, d2, d3] }
  | _ => none }
def fdbScriptsRow : OpenClaim := { program := "ytdmkkbgjidpmkaa", sum := "0b8d69c9dfe37fc6ab3ac263e21c9e5be0c6e43239ecd63e4cd8db3791d1896d", func := "gemel/gemellaw08.FdbScripts", spec := "fdbScripts", inPlace := ["internal/bytealg.Compare"], unfollowed := true, recurses := true, apart := false }
def FdbScriptsSaid : Prop := fdbScriptsRow.holds Try.pinned (OpenSpec.ofChange fdbScriptsSpec)

/-- ITS FALSE NEIGHBOUR: 'it returns false'. Refute it at one input. -/
def fdbScriptsWrong : ChangeSpec := { name := "fdbScripts", fn := fun _ => fun
  | [d1, d2, d3] => { results := [.lit (.bool false)], args := [d1, d2, d3] }
  | _ => none }
def FdbScriptsWrongFalsely : Prop := fdbScriptsRow.holds Try.pinned (OpenSpec.ofChange fdbScriptsWrong)

/-- 'gemellaw08.FdbLast': WHATEVER THE INPUT: true; the input reads as it did. -/
def fdbLastSpec : ChangeSpec := { name := "fdbLast", fn := fun _ => fun
  | [d1, d2] => { results := [.lit (.bool true)], args := [d1, d2] }
  | _ => none }
def fdbLastRow : OpenClaim := { program := "ytdmkkbgjidpmkaa", sum := "0b8d69c9dfe37fc6ab3ac263e21c9e5be0c6e43239ecd63e4cd8db3791d1896d", func := "gemel/gemellaw08.FdbLast", spec := "fdbLast", inPlace := ["internal/bytealg.Compare"], unfollowed := true, recurses := true, apart := false }
def FdbLastSaid : Prop := fdbLastRow.holds Try.pinned (OpenSpec.ofChange fdbLastSpec)

/-- ITS FALSE NEIGHBOUR: 'it returns false'. Refute it at one input. -/
def fdbLastWrong : ChangeSpec := { name := "fdbLast", fn := fun _ => fun
  | [d1, d2] => { results := [.lit (.bool false)], args := [d1, d2] }
  | _ => none }
def FdbLastWrongFalsely : Prop := fdbLastRow.holds Try.pinned (OpenSpec.ofChange fdbLastWrong)

/-- 'gemellaw08.FdbAlone': WHATEVER THE INPUT: true; the input reads as it did. -/
def fdbAloneSpec : ChangeSpec := { name := "fdbAlone", fn := fun _ => fun
  | [d] => { results := [.lit (.bool true)], args := [d] }
  | _ => none }
def fdbAloneRow : OpenClaim := { program := "ytdmkkbgjidpmkaa", sum := "0b8d69c9dfe37fc6ab3ac263e21c9e5be0c6e43239ecd63e4cd8db3791d1896d", func := "gemel/gemellaw08.FdbAlone", spec := "fdbAlone", inPlace := ["internal/bytealg.Compare"], unfollowed := true, recurses := true, apart := false }
def FdbAloneSaid : Prop := fdbAloneRow.holds Try.pinned (OpenSpec.ofChange fdbAloneSpec)

/-- ITS FALSE NEIGHBOUR: 'it returns false'. Refute it at one input. -/
def fdbAloneWrong : ChangeSpec := { name := "fdbAlone", fn := fun _ => fun
  | [d] => { results := [.lit (.bool false)], args := [d] }
  | _ => none }
def FdbAloneWrongFalsely : Prop := fdbAloneRow.holds Try.pinned (OpenSpec.ofChange fdbAloneWrong)

/-- 'gemellaw08.FdbForgets': WHATEVER THE INPUT: true; the input reads as it did. -/
def fdbForgetsSpec : ChangeSpec := { name := "fdbForgets", fn := fun _ => fun
  | [d1, d2] => { results := [.lit (.bool true)], args := [d1, d2] }
  | _ => none }
def fdbForgetsRow : OpenClaim := { program := "ytdmkkbgjidpmkaa", sum := "0b8d69c9dfe37fc6ab3ac263e21c9e5be0c6e43239ecd63e4cd8db3791d1896d", func := "gemel/gemellaw08.FdbForgets", spec := "fdbForgets", inPlace := ["internal/bytealg.Compare"], unfollowed := true, recurses := true, apart := false }
def FdbForgetsSaid : Prop := fdbForgetsRow.holds Try.pinned (OpenSpec.ofChange fdbForgetsSpec)

/-- ITS FALSE NEIGHBOUR: 'it returns false'. Refute it at one input. -/
def fdbForgetsWrong : ChangeSpec := { name := "fdbForgets", fn := fun _ => fun
  | [d1, d2] => { results := [.lit (.bool false)], args := [d1, d2] }
  | _ => none }
def FdbForgetsWrongFalsely : Prop := fdbForgetsRow.holds Try.pinned (OpenSpec.ofChange fdbForgetsWrong)

/-- 'gemellaw08.FdbBounds': WHATEVER THE INPUT: true; the input reads as it did. -/
def fdbBoundsSpec : ChangeSpec := { name := "fdbBounds", fn := fun _ => fun
  | [d1, d2, d3] => { results := [.lit (.bool true)], args := [d1, d2, d3] }
  | _ => none }
def fdbBoundsRow : OpenClaim := { program := "ytdmkkbgjidpmkaa", sum := "0b8d69c9dfe37fc6ab3ac263e21c9e5be0c6e43239ecd63e4cd8db3791d1896d", func := "gemel/gemellaw08.FdbBounds", spec := "fdbBounds", inPlace := ["internal/bytealg.Compare"], unfollowed := true, recurses := true, apart := false }
def FdbBoundsSaid : Prop := fdbBoundsRow.holds Try.pinned (OpenSpec.ofChange fdbBoundsSpec)

/-- ITS FALSE NEIGHBOUR: 'it returns false'. Refute it at one input. -/
def fdbBoundsWrong : ChangeSpec := { name := "fdbBounds", fn := fun _ => fun
  | [d1, d2, d3] => { results := [.lit (.bool false)], args := [d1, d2, d3] }
  | _ => none }
def FdbBoundsWrongFalsely : Prop := fdbBoundsRow.holds Try.pinned (OpenSpec.ofChange fdbBoundsWrong)

/-- 'gemellaw08.FdbMoves': WHATEVER THE INPUT: true; the input reads as it did. -/
def fdbMovesSpec : ChangeSpec := { name := "fdbMoves", fn := fun _ => fun
  | [d1, d2, d3] => { results := [.lit (.bool true)], args := [d1, d2, d3] }
  | _ => none }
def fdbMovesRow : OpenClaim := { program := "ytdmkkbgjidpmkaa", sum := "0b8d69c9dfe37fc6ab3ac263e21c9e5be0c6e43239ecd63e4cd8db3791d1896d", func := "gemel/gemellaw08.FdbMoves", spec := "fdbMoves", inPlace := ["internal/bytealg.Compare"], unfollowed := true, recurses := true, apart := false }
def FdbMovesSaid : Prop := fdbMovesRow.holds Try.pinned (OpenSpec.ofChange fdbMovesSpec)

/-- ITS FALSE NEIGHBOUR: 'it returns false'. Refute it at one input. -/
def fdbMovesWrong : ChangeSpec := { name := "fdbMoves", fn := fun _ => fun
  | [d1, d2, d3] => { results := [.lit (.bool false)], args := [d1, d2, d3] }
  | _ => none }
def FdbMovesWrongFalsely : Prop := fdbMovesRow.holds Try.pinned (OpenSpec.ofChange fdbMovesWrong)

/- THE SECOND FORM. 'bulk': how many values and letters a reading holds, each counted each time it is reached (what is shared counts as often as it is met; a slice's spare places count too). A statement '..UptoSaid' is the law's where the arguments, and the package variables that the reading takes, are together of bulk at most 1048576: NARROWER than '..Said'. Prove '..Said' where nothing that the law and all that it calls make is longer than what came in: it says more and counts as full. Else prove '..UptoSaid'. A law counts once. -/
mutual
def uptoBulk {H : Type} : DataW H → Nat
  | .lit (.string bytes) => bytes.length + 1
  | .lit _ => 1
  | .nil => 1
  | .ptr d => uptoBulk d + 1
  | .slice elems spare => uptoBulkAll elems + uptoBulkAll spare + 1
  | .agg parts => uptoBulkAll parts + 1
  | .iface _ d => uptoBulk d + 1
  | .map entries => uptoBulkEntries entries + 1
  | .held _ => 1
def uptoBulkAll {H : Type} : List (DataW H) → Nat
  | [] => 0
  | d :: r => uptoBulk d + uptoBulkAll r
def uptoBulkEntries {H : Type} : List (Lit × DataW H) → Nat
  | [] => 0
  | x :: r => uptoBulkEntry x + uptoBulkEntries r
def uptoBulkEntry {H : Type} : Lit × DataW H → Nat
  | (.string bytes, d) => bytes.length + uptoBulk d + 1
  | (_, d) => uptoBulk d + 1
 end
def uptoSmall : (H : Type) → List (DataW H) → Bool := fun _ ds => decide (uptoBulkAll ds ≤ 1048576)
def OpenSpec.upto (s : _root_.Go.ChangeSpec) : _root_.Go.OpenSpec := { _root_.Go.OpenSpec.ofChange s with cond := some uptoSmall }

/-- 'gemellaw08.FdbScripts', WHERE WHAT IT READS IS OF BULK AT MOST 1048576: true; the input reads as it did. -/
def fdbScriptsUptoRow : OpenClaim := { program := "ytdmkkbgjidpmkaa", sum := "0b8d69c9dfe37fc6ab3ac263e21c9e5be0c6e43239ecd63e4cd8db3791d1896d", func := "gemel/gemellaw08.FdbScripts", spec := "fdbScripts", inPlace := ["internal/bytealg.Compare"], unfollowed := true, recurses := true, apart := false, narrowed := true }
def FdbScriptsUptoSaid : Prop := fdbScriptsUptoRow.holds Try.pinned (OpenSpec.upto fdbScriptsSpec)

/-- 'gemellaw08.FdbLast', WHERE WHAT IT READS IS OF BULK AT MOST 1048576: true; the input reads as it did. -/
def fdbLastUptoRow : OpenClaim := { program := "ytdmkkbgjidpmkaa", sum := "0b8d69c9dfe37fc6ab3ac263e21c9e5be0c6e43239ecd63e4cd8db3791d1896d", func := "gemel/gemellaw08.FdbLast", spec := "fdbLast", inPlace := ["internal/bytealg.Compare"], unfollowed := true, recurses := true, apart := false, narrowed := true }
def FdbLastUptoSaid : Prop := fdbLastUptoRow.holds Try.pinned (OpenSpec.upto fdbLastSpec)

/-- 'gemellaw08.FdbAlone', WHERE WHAT IT READS IS OF BULK AT MOST 1048576: true; the input reads as it did. -/
def fdbAloneUptoRow : OpenClaim := { program := "ytdmkkbgjidpmkaa", sum := "0b8d69c9dfe37fc6ab3ac263e21c9e5be0c6e43239ecd63e4cd8db3791d1896d", func := "gemel/gemellaw08.FdbAlone", spec := "fdbAlone", inPlace := ["internal/bytealg.Compare"], unfollowed := true, recurses := true, apart := false, narrowed := true }
def FdbAloneUptoSaid : Prop := fdbAloneUptoRow.holds Try.pinned (OpenSpec.upto fdbAloneSpec)

/-- 'gemellaw08.FdbForgets', WHERE WHAT IT READS IS OF BULK AT MOST 1048576: true; the input reads as it did. -/
def fdbForgetsUptoRow : OpenClaim := { program := "ytdmkkbgjidpmkaa", sum := "0b8d69c9dfe37fc6ab3ac263e21c9e5be0c6e43239ecd63e4cd8db3791d1896d", func := "gemel/gemellaw08.FdbForgets", spec := "fdbForgets", inPlace := ["internal/bytealg.Compare"], unfollowed := true, recurses := true, apart := false, narrowed := true }
def FdbForgetsUptoSaid : Prop := fdbForgetsUptoRow.holds Try.pinned (OpenSpec.upto fdbForgetsSpec)

/-- 'gemellaw08.FdbBounds', WHERE WHAT IT READS IS OF BULK AT MOST 1048576: true; the input reads as it did. -/
def fdbBoundsUptoRow : OpenClaim := { program := "ytdmkkbgjidpmkaa", sum := "0b8d69c9dfe37fc6ab3ac263e21c9e5be0c6e43239ecd63e4cd8db3791d1896d", func := "gemel/gemellaw08.FdbBounds", spec := "fdbBounds", inPlace := ["internal/bytealg.Compare"], unfollowed := true, recurses := true, apart := false, narrowed := true }
def FdbBoundsUptoSaid : Prop := fdbBoundsUptoRow.holds Try.pinned (OpenSpec.upto fdbBoundsSpec)

/-- 'gemellaw08.FdbMoves', WHERE WHAT IT READS IS OF BULK AT MOST 1048576: true; the input reads as it did. -/
def fdbMovesUptoRow : OpenClaim := { program := "ytdmkkbgjidpmkaa", sum := "0b8d69c9dfe37fc6ab3ac263e21c9e5be0c6e43239ecd63e4cd8db3791d1896d", func := "gemel/gemellaw08.FdbMoves", spec := "fdbMoves", inPlace := ["internal/bytealg.Compare"], unfollowed := true, recurses := true, apart := false, narrowed := true }
def FdbMovesUptoSaid : Prop := fdbMovesUptoRow.holds Try.pinned (OpenSpec.upto fdbMovesSpec)

end Rows
end Go.Proofs.Ytdmkkbgjidpmkaa
