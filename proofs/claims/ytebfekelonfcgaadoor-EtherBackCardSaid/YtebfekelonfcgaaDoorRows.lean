/-
  NARROWER THAN 'FOR EVERY INPUT', by the rows' own cells (each row's printed sentence says how): EtherEncodes: laid · EtherOnce: laid · EtherTags: laid · EtherOff: laid · EtherDecodes: laid · EtherBack: laid.
  DERIVED. THE GIVEN ROWS OF THIS SEAT. 6 by the template 'for every input the law returns true; each argument reads behind the call as it read before'; 0 by the template 'total and deterministic' (their statements: YtebfekelonfcgaaDoorTotals.lean).
  GIVEN WITH THE SEED: the statements are not yours to turn. If you find one false, say at which input.
  Laid BY PROGRAM, IN A SANDBOX (cutbox-rows.mjs): the forced cells as the released guide's own fill.sh prints them over the translation 44a93024d3835845… (all of the seat's roots in one cut). By AI agents, Wed Nov 11 2026. No macro, syntax, notation, axiom, sorry.
-/
import Derived.Test.YtebfekelonfcgaaDoorChecked
import GoSem.Claim
import GoSem.ClaimJoined
import GoSem.ClaimMapViews
import Derived.JoinedTies
import Derived.KernelRfl
namespace Go.Proofs.YtebfekelonfcgaaDoor
/- THE CELL 'sum', in the pinned program and in every row, IS THE sha256 OF THE DUMP (.gsa) THAT YtebfekelonfcgaaDoorProg.lean LOADS. Nothing in Lean hashes anything: it is a label: what it is worth is what the hold of that sum in a sandbox is worth. -/
noncomputable def Tryd.pinned : Pinned := { name := "ytebfekelonfcgaadoor", sum := "44a93024d38358458343c2c8ed5b4f27aa9d15db811beae79a237bc44b033a14", checked := Tryd.checked }
namespace Rows
def none {H : Type} : Left H := { results := [], args := [] }

/- WHAT THE LISTED PACKAGE-LEVEL VARIABLES READ AS WHEN THE CALL BEGINS. Each datum BY PROGRAM (the guide's laid-datum.mjs) off the statement by which the dump's own 'gosem.cut.vars' lays the variable. In a bare row this is a premise. The card (YtebfekelonfcgaaDoorCards.lean) ties it to the program's text. -/
def laid_bytes_ErrTooLarge {H : Type} : DataW H := .iface "*errors.errorString" (.ptr (.agg [.lit (.string [98, 121, 116, 101, 115, 46, 66, 117, 102, 102, 101, 114, 58, 32, 116, 111, 111, 32, 108, 97, 114, 103, 101])]))

/-- 'gemellaw02.EtherEncodes': WHATEVER THE INPUT: true; the input reads as it did. -/
def etherEncodesSpec : ChangeSpec := { name := "etherEncodes", fn := fun _ => fun
  | [d] => { results := [.lit (.bool true)], args := [d] }
  | _ => none }
def etherEncodesRow : OpenClaim := { program := "ytebfekelonfcgaadoor", sum := "44a93024d38358458343c2c8ed5b4f27aa9d15db811beae79a237bc44b033a14", func := "gemel/gemellaw02.EtherEncodes", spec := "etherEncodes", unfollowed := true, recurses := true, named := ["bytes.ErrTooLarge"], apart := false, laid := [("bytes.ErrTooLarge", laid_bytes_ErrTooLarge)] }
def EtherEncodesSaid : Prop := etherEncodesRow.holds Tryd.pinned (OpenSpec.ofChange etherEncodesSpec)

/-- ITS FALSE NEIGHBOUR: 'it returns false'. Refute it at one input. -/
def etherEncodesWrong : ChangeSpec := { name := "etherEncodes", fn := fun _ => fun
  | [d] => { results := [.lit (.bool false)], args := [d] }
  | _ => none }
def EtherEncodesWrongFalsely : Prop := etherEncodesRow.holds Tryd.pinned (OpenSpec.ofChange etherEncodesWrong)

/-- 'gemellaw02.EtherOnce': WHATEVER THE INPUT: true; the input reads as it did. -/
def etherOnceSpec : ChangeSpec := { name := "etherOnce", fn := fun _ => fun
  | [d1, d2] => { results := [.lit (.bool true)], args := [d1, d2] }
  | _ => none }
def etherOnceRow : OpenClaim := { program := "ytebfekelonfcgaadoor", sum := "44a93024d38358458343c2c8ed5b4f27aa9d15db811beae79a237bc44b033a14", func := "gemel/gemellaw02.EtherOnce", spec := "etherOnce", unfollowed := true, recurses := true, named := ["bytes.ErrTooLarge"], apart := false, laid := [("bytes.ErrTooLarge", laid_bytes_ErrTooLarge)] }
def EtherOnceSaid : Prop := etherOnceRow.holds Tryd.pinned (OpenSpec.ofChange etherOnceSpec)

/-- ITS FALSE NEIGHBOUR: 'it returns false'. Refute it at one input. -/
def etherOnceWrong : ChangeSpec := { name := "etherOnce", fn := fun _ => fun
  | [d1, d2] => { results := [.lit (.bool false)], args := [d1, d2] }
  | _ => none }
def EtherOnceWrongFalsely : Prop := etherOnceRow.holds Tryd.pinned (OpenSpec.ofChange etherOnceWrong)

/-- 'gemellaw02.EtherTags': WHATEVER THE INPUT: true; the input reads as it did. -/
def etherTagsSpec : ChangeSpec := { name := "etherTags", fn := fun _ => fun
  | [d1, d2, d3] => { results := [.lit (.bool true)], args := [d1, d2, d3] }
  | _ => none }
def etherTagsRow : OpenClaim := { program := "ytebfekelonfcgaadoor", sum := "44a93024d38358458343c2c8ed5b4f27aa9d15db811beae79a237bc44b033a14", func := "gemel/gemellaw02.EtherTags", spec := "etherTags", unfollowed := true, recurses := true, named := ["bytes.ErrTooLarge"], apart := false, laid := [("bytes.ErrTooLarge", laid_bytes_ErrTooLarge)] }
def EtherTagsSaid : Prop := etherTagsRow.holds Tryd.pinned (OpenSpec.ofChange etherTagsSpec)

/-- ITS FALSE NEIGHBOUR: 'it returns false'. Refute it at one input. -/
def etherTagsWrong : ChangeSpec := { name := "etherTags", fn := fun _ => fun
  | [d1, d2, d3] => { results := [.lit (.bool false)], args := [d1, d2, d3] }
  | _ => none }
def EtherTagsWrongFalsely : Prop := etherTagsRow.holds Tryd.pinned (OpenSpec.ofChange etherTagsWrong)

/-- 'gemellaw02.EtherOff': WHATEVER THE INPUT: true; the input reads as it did. -/
def etherOffSpec : ChangeSpec := { name := "etherOff", fn := fun _ => fun
  | [d1, d2, d3] => { results := [.lit (.bool true)], args := [d1, d2, d3] }
  | _ => none }
def etherOffRow : OpenClaim := { program := "ytebfekelonfcgaadoor", sum := "44a93024d38358458343c2c8ed5b4f27aa9d15db811beae79a237bc44b033a14", func := "gemel/gemellaw02.EtherOff", spec := "etherOff", unfollowed := true, recurses := true, named := ["bytes.ErrTooLarge"], apart := false, laid := [("bytes.ErrTooLarge", laid_bytes_ErrTooLarge)] }
def EtherOffSaid : Prop := etherOffRow.holds Tryd.pinned (OpenSpec.ofChange etherOffSpec)

/-- ITS FALSE NEIGHBOUR: 'it returns false'. Refute it at one input. -/
def etherOffWrong : ChangeSpec := { name := "etherOff", fn := fun _ => fun
  | [d1, d2, d3] => { results := [.lit (.bool false)], args := [d1, d2, d3] }
  | _ => none }
def EtherOffWrongFalsely : Prop := etherOffRow.holds Tryd.pinned (OpenSpec.ofChange etherOffWrong)

/-- 'gemellaw02.EtherDecodes': WHATEVER THE INPUT: true; the input reads as it did. -/
def etherDecodesSpec : ChangeSpec := { name := "etherDecodes", fn := fun _ => fun
  | [d] => { results := [.lit (.bool true)], args := [d] }
  | _ => none }
def etherDecodesRow : OpenClaim := { program := "ytebfekelonfcgaadoor", sum := "44a93024d38358458343c2c8ed5b4f27aa9d15db811beae79a237bc44b033a14", func := "gemel/gemellaw02.EtherDecodes", spec := "etherDecodes", unfollowed := true, recurses := true, named := ["bytes.ErrTooLarge"], apart := false, laid := [("bytes.ErrTooLarge", laid_bytes_ErrTooLarge)] }
def EtherDecodesSaid : Prop := etherDecodesRow.holds Tryd.pinned (OpenSpec.ofChange etherDecodesSpec)

/-- ITS FALSE NEIGHBOUR: 'it returns false'. Refute it at one input. -/
def etherDecodesWrong : ChangeSpec := { name := "etherDecodes", fn := fun _ => fun
  | [d] => { results := [.lit (.bool false)], args := [d] }
  | _ => none }
def EtherDecodesWrongFalsely : Prop := etherDecodesRow.holds Tryd.pinned (OpenSpec.ofChange etherDecodesWrong)

/-- 'gemellaw02.EtherBack': WHATEVER THE INPUT: true; the input reads as it did. -/
def etherBackSpec : ChangeSpec := { name := "etherBack", fn := fun _ => fun
  | [d1, d2] => { results := [.lit (.bool true)], args := [d1, d2] }
  | _ => none }
def etherBackRow : OpenClaim := { program := "ytebfekelonfcgaadoor", sum := "44a93024d38358458343c2c8ed5b4f27aa9d15db811beae79a237bc44b033a14", func := "gemel/gemellaw02.EtherBack", spec := "etherBack", unfollowed := true, recurses := true, named := ["bytes.ErrTooLarge"], apart := false, laid := [("bytes.ErrTooLarge", laid_bytes_ErrTooLarge)] }
def EtherBackSaid : Prop := etherBackRow.holds Tryd.pinned (OpenSpec.ofChange etherBackSpec)

/-- ITS FALSE NEIGHBOUR: 'it returns false'. Refute it at one input. -/
def etherBackWrong : ChangeSpec := { name := "etherBack", fn := fun _ => fun
  | [d1, d2] => { results := [.lit (.bool false)], args := [d1, d2] }
  | _ => none }
def EtherBackWrongFalsely : Prop := etherBackRow.holds Tryd.pinned (OpenSpec.ofChange etherBackWrong)

/- THE SECOND FORM. 'bulk': how many values and letters a reading holds, each counted each time it is reached (what is shared counts as often as it is met; a slice's spare places count too). A statement '..UptoSaid' is the law's where the arguments, and the package variables that the reading takes, are together of bulk at most 1048576: NARROWER than '..Said'. Prove '..Said' where nothing that the law and all that it calls make is longer than what came in: it says more and counts as full. Else prove '..UptoSaid'. A law counts once. -/
mutual
def uptoBulk {H : Type} : DataW H → Nat
  | .lit (.string bytes) => bytes.length + 1
  | .lit _ => 1
  | .nil => 1
  | .ptr d => uptoBulk d + 1
  | .slice elems spare => uptoBulkAll elems + uptoBulkAll spare + 1
  | .agg parts => uptoBulkAll parts + 1
  | .iface _ d => uptoBulk d + 1
  | .map entries => uptoBulkEntries entries + 1
  | .held _ => 1
def uptoBulkAll {H : Type} : List (DataW H) → Nat
  | [] => 0
  | d :: r => uptoBulk d + uptoBulkAll r
def uptoBulkEntries {H : Type} : List (Lit × DataW H) → Nat
  | [] => 0
  | x :: r => uptoBulkEntry x + uptoBulkEntries r
def uptoBulkEntry {H : Type} : Lit × DataW H → Nat
  | (.string bytes, d) => bytes.length + uptoBulk d + 1
  | (_, d) => uptoBulk d + 1
 end
def uptoSmall : (H : Type) → List (DataW H) → Bool := fun _ ds => decide (uptoBulkAll ds ≤ 1048576)
def OpenSpec.upto (s : _root_.Go.ChangeSpec) : _root_.Go.OpenSpec := { _root_.Go.OpenSpec.ofChange s with cond := some uptoSmall }

/-- 'gemellaw02.EtherEncodes', WHERE WHAT IT READS IS OF BULK AT MOST 1048576: true; the input reads as it did. -/
def etherEncodesUptoRow : OpenClaim := { program := "ytebfekelonfcgaadoor", sum := "44a93024d38358458343c2c8ed5b4f27aa9d15db811beae79a237bc44b033a14", func := "gemel/gemellaw02.EtherEncodes", spec := "etherEncodes", unfollowed := true, recurses := true, named := ["bytes.ErrTooLarge"], apart := false, laid := [("bytes.ErrTooLarge", laid_bytes_ErrTooLarge)], narrowed := true }
def EtherEncodesUptoSaid : Prop := etherEncodesUptoRow.holds Tryd.pinned (OpenSpec.upto etherEncodesSpec)

/-- 'gemellaw02.EtherOnce', WHERE WHAT IT READS IS OF BULK AT MOST 1048576: true; the input reads as it did. -/
def etherOnceUptoRow : OpenClaim := { program := "ytebfekelonfcgaadoor", sum := "44a93024d38358458343c2c8ed5b4f27aa9d15db811beae79a237bc44b033a14", func := "gemel/gemellaw02.EtherOnce", spec := "etherOnce", unfollowed := true, recurses := true, named := ["bytes.ErrTooLarge"], apart := false, laid := [("bytes.ErrTooLarge", laid_bytes_ErrTooLarge)], narrowed := true }
def EtherOnceUptoSaid : Prop := etherOnceUptoRow.holds Tryd.pinned (OpenSpec.upto etherOnceSpec)

/-- 'gemellaw02.EtherTags', WHERE WHAT IT READS IS OF BULK AT MOST 1048576: true; the input reads as it did. -/
def etherTagsUptoRow : OpenClaim := { program := "ytebfekelonfcgaadoor", sum := "44a93024d38358458343c2c8ed5b4f27aa9d15db811beae79a237bc44b033a14", func := "gemel/gemellaw02.EtherTags", spec := "etherTags", unfollowed := true, recurses := true, named := ["bytes.ErrTooLarge"], apart := false, laid := [("bytes.ErrTooLarge", laid_bytes_ErrTooLarge)], narrowed := true }
def EtherTagsUptoSaid : Prop := etherTagsUptoRow.holds Tryd.pinned (OpenSpec.upto etherTagsSpec)

/-- 'gemellaw02.EtherOff', WHERE WHAT IT READS IS OF BULK AT MOST 1048576: true; the input reads as it did. -/
def etherOffUptoRow : OpenClaim := { program := "ytebfekelonfcgaadoor", sum := "44a93024d38358458343c2c8ed5b4f27aa9d15db811beae79a237bc44b033a14", func := "gemel/gemellaw02.EtherOff", spec := "etherOff", unfollowed := true, recurses := true, named := ["bytes.ErrTooLarge"], apart := false, laid := [("bytes.ErrTooLarge", laid_bytes_ErrTooLarge)], narrowed := true }
def EtherOffUptoSaid : Prop := etherOffUptoRow.holds Tryd.pinned (OpenSpec.upto etherOffSpec)

/-- 'gemellaw02.EtherDecodes', WHERE WHAT IT READS IS OF BULK AT MOST 1048576: true; the input reads as it did. -/
def etherDecodesUptoRow : OpenClaim := { program := "ytebfekelonfcgaadoor", sum := "44a93024d38358458343c2c8ed5b4f27aa9d15db811beae79a237bc44b033a14", func := "gemel/gemellaw02.EtherDecodes", spec := "etherDecodes", unfollowed := true, recurses := true, named := ["bytes.ErrTooLarge"], apart := false, laid := [("bytes.ErrTooLarge", laid_bytes_ErrTooLarge)], narrowed := true }
def EtherDecodesUptoSaid : Prop := etherDecodesUptoRow.holds Tryd.pinned (OpenSpec.upto etherDecodesSpec)

/-- 'gemellaw02.EtherBack', WHERE WHAT IT READS IS OF BULK AT MOST 1048576: true; the input reads as it did. -/
def etherBackUptoRow : OpenClaim := { program := "ytebfekelonfcgaadoor", sum := "44a93024d38358458343c2c8ed5b4f27aa9d15db811beae79a237bc44b033a14", func := "gemel/gemellaw02.EtherBack", spec := "etherBack", unfollowed := true, recurses := true, named := ["bytes.ErrTooLarge"], apart := false, laid := [("bytes.ErrTooLarge", laid_bytes_ErrTooLarge)], narrowed := true }
def EtherBackUptoSaid : Prop := etherBackUptoRow.holds Tryd.pinned (OpenSpec.upto etherBackSpec)

end Rows
end Go.Proofs.YtebfekelonfcgaaDoor
