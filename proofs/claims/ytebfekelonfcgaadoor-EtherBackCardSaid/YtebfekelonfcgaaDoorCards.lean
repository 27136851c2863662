/-
  DERIVED. GIVEN WITH THE SEED: THE CARDS: each row of YtebfekelonfcgaaDoorRows.lean that lists a variable, with what it lists TIED to the program's text (the seventh form; the later family's looks); each row that meets fmt, with fmt's text TOLD by the authors' own Lean function (tested against real Go, not proved from fmt's source: count such statements apart). THE CARD IS WHAT COUNTS. Prove the row's statement (the work); the ties are given (YtebfekelonfcgaaDoorTie.lean); close each card by the builder's one call (the guide's Derived/Test/ToyasCard.lean, 'card_holds'). Laid BY PROGRAM, IN A SANDBOX (cutbox-door.mjs). By AI agents, Wed Nov 11 2026. No macro, syntax, notation, axiom, sorry.
-/
import Derived.Test.YtebfekelonfcgaaDoorRows
import GoSem.ClaimSeven
namespace Go.Proofs.YtebfekelonfcgaaDoor
namespace Rows

/-- THE TIED CARD OF 'gemellaw02.EtherEncodes'. -/
def etherEncodesCard : Claim7 := { stood := { row := etherEncodesRow, standIns := [], harness := (true, "b89eb2790d265fea22f2b784bde12cccc3cbf9d09372e77fde1845b352b6e752"), looks := true }, kinds := [], alts := [], laidByText := true, laidKinds := [.sentinel], laidTests := true, laidLooks := .later }
def EtherEncodesCardSaid : Prop := Claim7.holds Tryd.pinned (.plain (OpenSpec.ofChange etherEncodesSpec)) etherEncodesCard

/-- THE TIED CARD OF 'gemellaw02.EtherOnce'. -/
def etherOnceCard : Claim7 := { stood := { row := etherOnceRow, standIns := [], harness := (true, "b89eb2790d265fea22f2b784bde12cccc3cbf9d09372e77fde1845b352b6e752"), looks := true }, kinds := [], alts := [], laidByText := true, laidKinds := [.sentinel], laidTests := true, laidLooks := .later }
def EtherOnceCardSaid : Prop := Claim7.holds Tryd.pinned (.plain (OpenSpec.ofChange etherOnceSpec)) etherOnceCard

/-- THE TIED CARD OF 'gemellaw02.EtherTags'. -/
def etherTagsCard : Claim7 := { stood := { row := etherTagsRow, standIns := [], harness := (true, "b89eb2790d265fea22f2b784bde12cccc3cbf9d09372e77fde1845b352b6e752"), looks := true }, kinds := [], alts := [], laidByText := true, laidKinds := [.sentinel], laidTests := true, laidLooks := .later }
def EtherTagsCardSaid : Prop := Claim7.holds Tryd.pinned (.plain (OpenSpec.ofChange etherTagsSpec)) etherTagsCard

/-- THE TIED CARD OF 'gemellaw02.EtherOff'. -/
def etherOffCard : Claim7 := { stood := { row := etherOffRow, standIns := [], harness := (true, "b89eb2790d265fea22f2b784bde12cccc3cbf9d09372e77fde1845b352b6e752"), looks := true }, kinds := [], alts := [], laidByText := true, laidKinds := [.sentinel], laidTests := true, laidLooks := .later }
def EtherOffCardSaid : Prop := Claim7.holds Tryd.pinned (.plain (OpenSpec.ofChange etherOffSpec)) etherOffCard

/-- THE TIED CARD OF 'gemellaw02.EtherDecodes'. -/
def etherDecodesCard : Claim7 := { stood := { row := etherDecodesRow, standIns := [], harness := (true, "b89eb2790d265fea22f2b784bde12cccc3cbf9d09372e77fde1845b352b6e752"), looks := true }, kinds := [], alts := [], laidByText := true, laidKinds := [.sentinel], laidTests := true, laidLooks := .later }
def EtherDecodesCardSaid : Prop := Claim7.holds Tryd.pinned (.plain (OpenSpec.ofChange etherDecodesSpec)) etherDecodesCard

/-- THE TIED CARD OF 'gemellaw02.EtherBack'. -/
def etherBackCard : Claim7 := { stood := { row := etherBackRow, standIns := [], harness := (true, "b89eb2790d265fea22f2b784bde12cccc3cbf9d09372e77fde1845b352b6e752"), looks := true }, kinds := [], alts := [], laidByText := true, laidKinds := [.sentinel], laidTests := true, laidLooks := .later }
def EtherBackCardSaid : Prop := Claim7.holds Tryd.pinned (.plain (OpenSpec.ofChange etherBackSpec)) etherBackCard

/-- THE SECOND FORM's CARD OF 'gemellaw02.EtherEncodes'. -/
def etherEncodesUptoCard : Claim7 := { stood := { row := etherEncodesUptoRow, standIns := [], harness := (true, "b89eb2790d265fea22f2b784bde12cccc3cbf9d09372e77fde1845b352b6e752"), looks := true }, kinds := [], alts := [], laidByText := true, laidKinds := [.sentinel], laidTests := true, laidLooks := .later }
def EtherEncodesUptoCardSaid : Prop := Claim7.holds Tryd.pinned (.plain (OpenSpec.upto etherEncodesSpec)) etherEncodesUptoCard

/-- THE SECOND FORM's CARD OF 'gemellaw02.EtherOnce'. -/
def etherOnceUptoCard : Claim7 := { stood := { row := etherOnceUptoRow, standIns := [], harness := (true, "b89eb2790d265fea22f2b784bde12cccc3cbf9d09372e77fde1845b352b6e752"), looks := true }, kinds := [], alts := [], laidByText := true, laidKinds := [.sentinel], laidTests := true, laidLooks := .later }
def EtherOnceUptoCardSaid : Prop := Claim7.holds Tryd.pinned (.plain (OpenSpec.upto etherOnceSpec)) etherOnceUptoCard

/-- THE SECOND FORM's CARD OF 'gemellaw02.EtherTags'. -/
def etherTagsUptoCard : Claim7 := { stood := { row := etherTagsUptoRow, standIns := [], harness := (true, "b89eb2790d265fea22f2b784bde12cccc3cbf9d09372e77fde1845b352b6e752"), looks := true }, kinds := [], alts := [], laidByText := true, laidKinds := [.sentinel], laidTests := true, laidLooks := .later }
def EtherTagsUptoCardSaid : Prop := Claim7.holds Tryd.pinned (.plain (OpenSpec.upto etherTagsSpec)) etherTagsUptoCard

/-- THE SECOND FORM's CARD OF 'gemellaw02.EtherOff'. -/
def etherOffUptoCard : Claim7 := { stood := { row := etherOffUptoRow, standIns := [], harness := (true, "b89eb2790d265fea22f2b784bde12cccc3cbf9d09372e77fde1845b352b6e752"), looks := true }, kinds := [], alts := [], laidByText := true, laidKinds := [.sentinel], laidTests := true, laidLooks := .later }
def EtherOffUptoCardSaid : Prop := Claim7.holds Tryd.pinned (.plain (OpenSpec.upto etherOffSpec)) etherOffUptoCard

/-- THE SECOND FORM's CARD OF 'gemellaw02.EtherDecodes'. -/
def etherDecodesUptoCard : Claim7 := { stood := { row := etherDecodesUptoRow, standIns := [], harness := (true, "b89eb2790d265fea22f2b784bde12cccc3cbf9d09372e77fde1845b352b6e752"), looks := true }, kinds := [], alts := [], laidByText := true, laidKinds := [.sentinel], laidTests := true, laidLooks := .later }
def EtherDecodesUptoCardSaid : Prop := Claim7.holds Tryd.pinned (.plain (OpenSpec.upto etherDecodesSpec)) etherDecodesUptoCard

/-- THE SECOND FORM's CARD OF 'gemellaw02.EtherBack'. -/
def etherBackUptoCard : Claim7 := { stood := { row := etherBackUptoRow, standIns := [], harness := (true, "b89eb2790d265fea22f2b784bde12cccc3cbf9d09372e77fde1845b352b6e752"), looks := true }, kinds := [], alts := [], laidByText := true, laidKinds := [.sentinel], laidTests := true, laidLooks := .later }
def EtherBackUptoCardSaid : Prop := Claim7.holds Tryd.pinned (.plain (OpenSpec.upto etherBackSpec)) etherBackUptoCard
end Rows
end Go.Proofs.YtebfekelonfcgaaDoor
