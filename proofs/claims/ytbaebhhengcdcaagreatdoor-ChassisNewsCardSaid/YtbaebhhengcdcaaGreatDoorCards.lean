/-
  DERIVED. GIVEN WITH THE SEED: THE CARDS: each row of YtbaebhhengcdcaaGreatDoorRows.lean that lists a variable, with what it lists TIED to the program's text (the seventh form; the later family's looks); each row that meets fmt, with fmt's text TOLD by the authors' own Lean function (tested against real Go, not proved from fmt's source: count such statements apart). THE CARD IS WHAT COUNTS. Prove the row's statement (the work); the ties are given (YtbaebhhengcdcaaGreatDoorTie.lean); close each card by the builder's one call (the guide's Derived/Test/ToyasCard.lean, 'card_holds'). Laid BY PROGRAM, IN A SANDBOX (cutbox-door.mjs). By AI agents, Wed Nov 11 2026. No macro, syntax, notation, axiom, sorry.
-/
import Derived.Test.YtbaebhhengcdcaaGreatDoorRows
import GoSem.ClaimSeven
namespace Go.Proofs.YtbaebhhengcdcaaGreatDoor
namespace Rows

/-- THE TIED CARD OF 'gemellaw23.ChassisNews'. -/
def chassisNewsCard : Claim7 := { stood := { row := chassisNewsRow, standIns := [], harness := (true, "5fe7911310b93177b2d57a73ba12f3ead31a6df21d93408bf37ec5be92826964"), looks := true }, kinds := [], alts := [], laidByText := true, laidKinds := [.data, .sentinel], laidTests := true, laidLooks := .later }
def ChassisNewsCardSaid : Prop := Claim7.holds Tryz.pinned (.plain (OpenSpec.ofChange chassisNewsSpec)) chassisNewsCard

/-- THE TIED CARD OF 'gemellaw23.ChassisRelays'. -/
def chassisRelaysCard : Claim7 := { stood := { row := chassisRelaysRow, standIns := [], harness := (true, "5fe7911310b93177b2d57a73ba12f3ead31a6df21d93408bf37ec5be92826964"), looks := true }, kinds := [], alts := [], laidByText := true, laidKinds := [.data, .sentinel], laidTests := true, laidLooks := .later }
def ChassisRelaysCardSaid : Prop := Claim7.holds Tryz.pinned (.plain (OpenSpec.ofChange chassisRelaysSpec)) chassisRelaysCard

/-- THE TIED CARD OF 'gemellaw23.ChassisLinks'. -/
def chassisLinksCard : Claim7 := { stood := { row := chassisLinksRow, standIns := [], harness := (true, "5fe7911310b93177b2d57a73ba12f3ead31a6df21d93408bf37ec5be92826964"), looks := true }, kinds := [], alts := [], laidByText := true, laidKinds := [.data, .sentinel], laidTests := true, laidLooks := .later }
def ChassisLinksCardSaid : Prop := Claim7.holds Tryz.pinned (.plain (OpenSpec.ofChange chassisLinksSpec)) chassisLinksCard

/-- THE TIED CARD OF 'gemellaw23.ChassisTold'. -/
def chassisToldCard : Claim7 := { stood := { row := chassisToldRow, standIns := [], harness := (true, "5fe7911310b93177b2d57a73ba12f3ead31a6df21d93408bf37ec5be92826964"), looks := true }, kinds := [], alts := [], laidByText := true, laidKinds := [.data, .sentinel], laidTests := true, laidLooks := .later }
def ChassisToldCardSaid : Prop := Claim7.holds Tryz.pinned (.plain (OpenSpec.ofChange chassisToldSpec)) chassisToldCard

/-- THE TIED CARD OF 'gemellaw23.ChassisSends'. -/
def chassisSendsCard : Claim7 := { stood := { row := chassisSendsRow, standIns := [], harness := (true, "5fe7911310b93177b2d57a73ba12f3ead31a6df21d93408bf37ec5be92826964"), looks := true }, kinds := [], alts := [], laidByText := true, laidKinds := [.data, .sentinel], laidTests := true, laidLooks := .later }
def ChassisSendsCardSaid : Prop := Claim7.holds Tryz.pinned (.plain (OpenSpec.ofChange chassisSendsSpec)) chassisSendsCard

/-- THE TIED CARD OF 'gemellaw23.ChassisScripts'. -/
def chassisScriptsCard : Claim7 := { stood := { row := chassisScriptsRow, standIns := [], harness := (true, "5fe7911310b93177b2d57a73ba12f3ead31a6df21d93408bf37ec5be92826964"), looks := true }, kinds := [], alts := [], laidByText := true, laidKinds := [.data, .sentinel], laidTests := true, laidLooks := .later }
def ChassisScriptsCardSaid : Prop := Claim7.holds Tryz.pinned (.plain (OpenSpec.ofChange chassisScriptsSpec)) chassisScriptsCard

/-- THE SECOND FORM's CARD OF 'gemellaw23.ChassisNews'. -/
def chassisNewsUptoCard : Claim7 := { stood := { row := chassisNewsUptoRow, standIns := [], harness := (true, "5fe7911310b93177b2d57a73ba12f3ead31a6df21d93408bf37ec5be92826964"), looks := true }, kinds := [], alts := [], laidByText := true, laidKinds := [.data, .sentinel], laidTests := true, laidLooks := .later }
def ChassisNewsUptoCardSaid : Prop := Claim7.holds Tryz.pinned (.plain (OpenSpec.upto chassisNewsSpec)) chassisNewsUptoCard

/-- THE SECOND FORM's CARD OF 'gemellaw23.ChassisRelays'. -/
def chassisRelaysUptoCard : Claim7 := { stood := { row := chassisRelaysUptoRow, standIns := [], harness := (true, "5fe7911310b93177b2d57a73ba12f3ead31a6df21d93408bf37ec5be92826964"), looks := true }, kinds := [], alts := [], laidByText := true, laidKinds := [.data, .sentinel], laidTests := true, laidLooks := .later }
def ChassisRelaysUptoCardSaid : Prop := Claim7.holds Tryz.pinned (.plain (OpenSpec.upto chassisRelaysSpec)) chassisRelaysUptoCard

/-- THE SECOND FORM's CARD OF 'gemellaw23.ChassisLinks'. -/
def chassisLinksUptoCard : Claim7 := { stood := { row := chassisLinksUptoRow, standIns := [], harness := (true, "5fe7911310b93177b2d57a73ba12f3ead31a6df21d93408bf37ec5be92826964"), looks := true }, kinds := [], alts := [], laidByText := true, laidKinds := [.data, .sentinel], laidTests := true, laidLooks := .later }
def ChassisLinksUptoCardSaid : Prop := Claim7.holds Tryz.pinned (.plain (OpenSpec.upto chassisLinksSpec)) chassisLinksUptoCard

/-- THE SECOND FORM's CARD OF 'gemellaw23.ChassisTold'. -/
def chassisToldUptoCard : Claim7 := { stood := { row := chassisToldUptoRow, standIns := [], harness := (true, "5fe7911310b93177b2d57a73ba12f3ead31a6df21d93408bf37ec5be92826964"), looks := true }, kinds := [], alts := [], laidByText := true, laidKinds := [.data, .sentinel], laidTests := true, laidLooks := .later }
def ChassisToldUptoCardSaid : Prop := Claim7.holds Tryz.pinned (.plain (OpenSpec.upto chassisToldSpec)) chassisToldUptoCard

/-- THE SECOND FORM's CARD OF 'gemellaw23.ChassisSends'. -/
def chassisSendsUptoCard : Claim7 := { stood := { row := chassisSendsUptoRow, standIns := [], harness := (true, "5fe7911310b93177b2d57a73ba12f3ead31a6df21d93408bf37ec5be92826964"), looks := true }, kinds := [], alts := [], laidByText := true, laidKinds := [.data, .sentinel], laidTests := true, laidLooks := .later }
def ChassisSendsUptoCardSaid : Prop := Claim7.holds Tryz.pinned (.plain (OpenSpec.upto chassisSendsSpec)) chassisSendsUptoCard

/-- THE SECOND FORM's CARD OF 'gemellaw23.ChassisScripts'. -/
def chassisScriptsUptoCard : Claim7 := { stood := { row := chassisScriptsUptoRow, standIns := [], harness := (true, "5fe7911310b93177b2d57a73ba12f3ead31a6df21d93408bf37ec5be92826964"), looks := true }, kinds := [], alts := [], laidByText := true, laidKinds := [.data, .sentinel], laidTests := true, laidLooks := .later }
def ChassisScriptsUptoCardSaid : Prop := Claim7.holds Tryz.pinned (.plain (OpenSpec.upto chassisScriptsSpec)) chassisScriptsUptoCard
end Rows
end Go.Proofs.YtbaebhhengcdcaaGreatDoor
