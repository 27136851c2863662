/-
  No cell of these rows narrows 'for every input' (looked for: loops, veiled, ifaces, maps, wideKeys, modest, calm, conditions, laid).
  DERIVED. THE GIVEN ROWS OF THIS SEAT. 6 by the template 'for every input the law returns true; each argument reads behind the call as it read before'; 0 by the template 'total and deterministic' (their statements: YtogbkljoganbhaaTotals.lean).
  GIVEN WITH THE SEED: the statements are not yours to turn. If you find one false, say at which input.
  Laid BY PROGRAM, IN A SANDBOX (cutbox-rows.mjs): the forced cells as the released guide's own fill.sh prints them over the translation 7519367de79d43da… (all of the seat's roots in one cut). By AI agents, Wed Nov 11 2026. No macro, syntax, notation, axiom, sorry.
-/
import Derived.Test.YtogbkljoganbhaaChecked
import GoSem.Claim
import GoSem.ClaimJoined
import GoSem.ClaimMapViews
import Derived.JoinedTies
import Derived.KernelRfl
namespace Go.Proofs.Ytogbkljoganbhaa
/- THE CELL 'sum', in the pinned program and in every row, IS THE sha256 OF THE DUMP (.gsa) THAT YtogbkljoganbhaaProg.lean LOADS. Nothing in Lean hashes anything: it is a label: what it is worth is what the hold of that sum in a sandbox is worth. -/
noncomputable def Try.pinned : Pinned := { name := "ytogbkljoganbhaa", sum := "7519367de79d43da2fcc0b55735b40556f55d031076147542ed7b4a61f8835cd", checked := Try.checked }
namespace Rows
def none {H : Type} : Left H := { results := [], args := [] }

/-- 'gemellaw09.JournalScripts': WHATEVER THE INPUT: true; the input reads as it did. -/
def journalScriptsSpec : ChangeSpec := { name := "journalScripts", fn := fun _ => fun
  | [d1, d2, d3] => { results := [.lit (.bool true)], args := [d1, d2, d3] }
  | _ => none }
def journalScriptsRow : OpenClaim := { program := "ytogbkljoganbhaa", sum := "7519367de79d43da2fcc0b55735b40556f55d031076147542ed7b4a61f8835cd", func := "gemel/gemellaw09.JournalScripts", spec := "journalScripts", unfollowed := true, recurses := true, plainKeys := false, apart := false }
def JournalScriptsSaid : Prop := journalScriptsRow.holds Try.pinned (OpenSpec.ofChange journalScriptsSpec)

/-- ITS FALSE NEIGHBOUR: 'it returns false'. Refute it at one input. -/
def journalScriptsWrong : ChangeSpec := { name := "journalScripts", fn := fun _ => fun
  | [d1, d2, d3] => { results := [.lit (.bool false)], args := [d1, d2, d3] }
  | _ => none }
def JournalScriptsWrongFalsely : Prop := journalScriptsRow.holds Try.pinned (OpenSpec.ofChange journalScriptsWrong)

/-- 'gemellaw09.JournalLast': WHATEVER THE INPUT: true; the input reads as it did. -/
def journalLastSpec : ChangeSpec := { name := "journalLast", fn := fun _ => fun
  | [d1, d2, d3] => { results := [.lit (.bool true)], args := [d1, d2, d3] }
  | _ => none }
def journalLastRow : OpenClaim := { program := "ytogbkljoganbhaa", sum := "7519367de79d43da2fcc0b55735b40556f55d031076147542ed7b4a61f8835cd", func := "gemel/gemellaw09.JournalLast", spec := "journalLast", unfollowed := true, recurses := true, plainKeys := false, apart := false }
def JournalLastSaid : Prop := journalLastRow.holds Try.pinned (OpenSpec.ofChange journalLastSpec)

/-- ITS FALSE NEIGHBOUR: 'it returns false'. Refute it at one input. -/
def journalLastWrong : ChangeSpec := { name := "journalLast", fn := fun _ => fun
  | [d1, d2, d3] => { results := [.lit (.bool false)], args := [d1, d2, d3] }
  | _ => none }
def JournalLastWrongFalsely : Prop := journalLastRow.holds Try.pinned (OpenSpec.ofChange journalLastWrong)

/-- 'gemellaw09.JournalReplays': WHATEVER THE INPUT: true; the input reads as it did. -/
def journalReplaysSpec : ChangeSpec := { name := "journalReplays", fn := fun _ => fun
  | [d1, d2] => { results := [.lit (.bool true)], args := [d1, d2] }
  | _ => none }
def journalReplaysRow : OpenClaim := { program := "ytogbkljoganbhaa", sum := "7519367de79d43da2fcc0b55735b40556f55d031076147542ed7b4a61f8835cd", func := "gemel/gemellaw09.JournalReplays", spec := "journalReplays", inPlace := ["internal/bytealg.Compare"], unfollowed := true, recurses := true, plainKeys := false, apart := false }
def JournalReplaysSaid : Prop := journalReplaysRow.holds Try.pinned (OpenSpec.ofChange journalReplaysSpec)

/-- ITS FALSE NEIGHBOUR: 'it returns false'. Refute it at one input. -/
def journalReplaysWrong : ChangeSpec := { name := "journalReplays", fn := fun _ => fun
  | [d1, d2] => { results := [.lit (.bool false)], args := [d1, d2] }
  | _ => none }
def JournalReplaysWrongFalsely : Prop := journalReplaysRow.holds Try.pinned (OpenSpec.ofChange journalReplaysWrong)

/-- 'gemellaw09.JournalWhole': WHATEVER THE INPUT: true; the input reads as it did. -/
def journalWholeSpec : ChangeSpec := { name := "journalWhole", fn := fun _ => fun
  | [d1, d2, d3] => { results := [.lit (.bool true)], args := [d1, d2, d3] }
  | _ => none }
def journalWholeRow : OpenClaim := { program := "ytogbkljoganbhaa", sum := "7519367de79d43da2fcc0b55735b40556f55d031076147542ed7b4a61f8835cd", func := "gemel/gemellaw09.JournalWhole", spec := "journalWhole", inPlace := ["internal/bytealg.Compare"], unfollowed := true, recurses := true, plainKeys := false, apart := false }
def JournalWholeSaid : Prop := journalWholeRow.holds Try.pinned (OpenSpec.ofChange journalWholeSpec)

/-- ITS FALSE NEIGHBOUR: 'it returns false'. Refute it at one input. -/
def journalWholeWrong : ChangeSpec := { name := "journalWhole", fn := fun _ => fun
  | [d1, d2, d3] => { results := [.lit (.bool false)], args := [d1, d2, d3] }
  | _ => none }
def JournalWholeWrongFalsely : Prop := journalWholeRow.holds Try.pinned (OpenSpec.ofChange journalWholeWrong)

/-- 'gemellaw09.JournalTwice': WHATEVER THE INPUT: true; the input reads as it did. -/
def journalTwiceSpec : ChangeSpec := { name := "journalTwice", fn := fun _ => fun
  | [d1, d2, d3] => { results := [.lit (.bool true)], args := [d1, d2, d3] }
  | _ => none }
def journalTwiceRow : OpenClaim := { program := "ytogbkljoganbhaa", sum := "7519367de79d43da2fcc0b55735b40556f55d031076147542ed7b4a61f8835cd", func := "gemel/gemellaw09.JournalTwice", spec := "journalTwice", inPlace := ["internal/bytealg.Compare"], unfollowed := true, recurses := true, plainKeys := false, apart := false }
def JournalTwiceSaid : Prop := journalTwiceRow.holds Try.pinned (OpenSpec.ofChange journalTwiceSpec)

/-- ITS FALSE NEIGHBOUR: 'it returns false'. Refute it at one input. -/
def journalTwiceWrong : ChangeSpec := { name := "journalTwice", fn := fun _ => fun
  | [d1, d2, d3] => { results := [.lit (.bool false)], args := [d1, d2, d3] }
  | _ => none }
def JournalTwiceWrongFalsely : Prop := journalTwiceRow.holds Try.pinned (OpenSpec.ofChange journalTwiceWrong)

/-- 'gemellaw09.JournalParts': WHATEVER THE INPUT: true; the input reads as it did. -/
def journalPartsSpec : ChangeSpec := { name := "journalParts", fn := fun _ => fun
  | [d1, d2, d3] => { results := [.lit (.bool true)], args := [d1, d2, d3] }
  | _ => none }
def journalPartsRow : OpenClaim := { program := "ytogbkljoganbhaa", sum := "7519367de79d43da2fcc0b55735b40556f55d031076147542ed7b4a61f8835cd", func := "gemel/gemellaw09.JournalParts", spec := "journalParts", inPlace := ["internal/bytealg.Compare"], unfollowed := true, recurses := true, plainKeys := false, apart := false }
def JournalPartsSaid : Prop := journalPartsRow.holds Try.pinned (OpenSpec.ofChange journalPartsSpec)

/-- ITS FALSE NEIGHBOUR: 'it returns false'. Refute it at one input. -/
def journalPartsWrong : ChangeSpec := { name := "journalParts", fn := fun _ => fun
  | [d1, d2, d3] => { results := [.lit (.bool false)], args := [d1, d2, d3] }
  | _ => none }
def JournalPartsWrongFalsely : Prop := journalPartsRow.holds Try.pinned (OpenSpec.ofChange journalPartsWrong)

/- THE SECOND FORM. 'bulk': how many values and letters a reading holds, each counted each time it is reached (what is shared counts as often as it is met; a slice's spare places count too). A statement '..UptoSaid' is the law's where the arguments, and the package variables that the reading takes, are together of bulk at most 1048576: NARROWER than '..Said'. Prove '..Said' where nothing that the law and all that it calls make is longer than what came in: it says more and counts as full. Else prove '..UptoSaid'. A law counts once. -/
mutual
def uptoBulk {H : Type} : DataW H → Nat
  | .lit (.string bytes) => bytes.length + 1
  | .lit _ => 1
  | .nil => 1
  | .ptr d => uptoBulk d + 1
  | .slice elems spare => uptoBulkAll elems + uptoBulkAll spare + 1
  | .agg parts => uptoBulkAll parts + 1
  | .iface _ d => uptoBulk d + 1
  | .map entries => uptoBulkEntries entries + 1
  | .held _ => 1
def uptoBulkAll {H : Type} : List (DataW H) → Nat
  | [] => 0
  | d :: r => uptoBulk d + uptoBulkAll r
def uptoBulkEntries {H : Type} : List (Lit × DataW H) → Nat
  | [] => 0
  | x :: r => uptoBulkEntry x + uptoBulkEntries r
def uptoBulkEntry {H : Type} : Lit × DataW H → Nat
  | (.string bytes, d) => bytes.length + uptoBulk d + 1
  | (_, d) => uptoBulk d + 1
 end
def uptoSmall : (H : Type) → List (DataW H) → Bool := fun _ ds => decide (uptoBulkAll ds ≤ 1048576)
def OpenSpec.upto (s : _root_.Go.ChangeSpec) : _root_.Go.OpenSpec := { _root_.Go.OpenSpec.ofChange s with cond := some uptoSmall }

/-- 'gemellaw09.JournalScripts', WHERE WHAT IT READS IS OF BULK AT MOST 1048576: true; the input reads as it did. -/
def journalScriptsUptoRow : OpenClaim := { program := "ytogbkljoganbhaa", sum := "7519367de79d43da2fcc0b55735b40556f55d031076147542ed7b4a61f8835cd", func := "gemel/gemellaw09.JournalScripts", spec := "journalScripts", unfollowed := true, recurses := true, plainKeys := false, apart := false, narrowed := true }
def JournalScriptsUptoSaid : Prop := journalScriptsUptoRow.holds Try.pinned (OpenSpec.upto journalScriptsSpec)

/-- 'gemellaw09.JournalLast', WHERE WHAT IT READS IS OF BULK AT MOST 1048576: true; the input reads as it did. -/
def journalLastUptoRow : OpenClaim := { program := "ytogbkljoganbhaa", sum := "7519367de79d43da2fcc0b55735b40556f55d031076147542ed7b4a61f8835cd", func := "gemel/gemellaw09.JournalLast", spec := "journalLast", unfollowed := true, recurses := true, plainKeys := false, apart := false, narrowed := true }
def JournalLastUptoSaid : Prop := journalLastUptoRow.holds Try.pinned (OpenSpec.upto journalLastSpec)

/-- 'gemellaw09.JournalReplays', WHERE WHAT IT READS IS OF BULK AT MOST 1048576: true; the input reads as it did. -/
def journalReplaysUptoRow : OpenClaim := { program := "ytogbkljoganbhaa", sum := "7519367de79d43da2fcc0b55735b40556f55d031076147542ed7b4a61f8835cd", func := "gemel/gemellaw09.JournalReplays", spec := "journalReplays", inPlace := ["internal/bytealg.Compare"], unfollowed := true, recurses := true, plainKeys := false, apart := false, narrowed := true }
def JournalReplaysUptoSaid : Prop := journalReplaysUptoRow.holds Try.pinned (OpenSpec.upto journalReplaysSpec)

/-- 'gemellaw09.JournalWhole', WHERE WHAT IT READS IS OF BULK AT MOST 1048576: true; the input reads as it did. -/
def journalWholeUptoRow : OpenClaim := { program := "ytogbkljoganbhaa", sum := "7519367de79d43da2fcc0b55735b40556f55d031076147542ed7b4a61f8835cd", func := "gemel/gemellaw09.JournalWhole", spec := "journalWhole", inPlace := ["internal/bytealg.Compare"], unfollowed := true, recurses := true, plainKeys := false, apart := false, narrowed := true }
def JournalWholeUptoSaid : Prop := journalWholeUptoRow.holds Try.pinned (OpenSpec.upto journalWholeSpec)

/-- 'gemellaw09.JournalTwice', WHERE WHAT IT READS IS OF BULK AT MOST 1048576: true; the input reads as it did. -/
def journalTwiceUptoRow : OpenClaim := { program := "ytogbkljoganbhaa", sum := "7519367de79d43da2fcc0b55735b40556f55d031076147542ed7b4a61f8835cd", func := "gemel/gemellaw09.JournalTwice", spec := "journalTwice", inPlace := ["internal/bytealg.Compare"], unfollowed := true, recurses := true, plainKeys := false, apart := false, narrowed := true }
def JournalTwiceUptoSaid : Prop := journalTwiceUptoRow.holds Try.pinned (OpenSpec.upto journalTwiceSpec)

/-- 'gemellaw09.JournalParts', WHERE WHAT IT READS IS OF BULK AT MOST 1048576: true; the input reads as it did. -/
def journalPartsUptoRow : OpenClaim := { program := "ytogbkljoganbhaa", sum := "7519367de79d43da2fcc0b55735b40556f55d031076147542ed7b4a61f8835cd", func := "gemel/gemellaw09.JournalParts", spec := "journalParts", inPlace := ["internal/bytealg.Compare"], unfollowed := true, recurses := true, plainKeys := false, apart := false, narrowed := true }
def JournalPartsUptoSaid : Prop := journalPartsUptoRow.holds Try.pinned (OpenSpec.upto journalPartsSpec)

end Rows
end Go.Proofs.Ytogbkljoganbhaa
