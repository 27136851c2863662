/- Frames that come in; the listed variable; the laws on frames' bytes. -/
import Derived.Test.YtebfekelonfcgaaDoorRows
import Derived.Test.YtebfekelonfcgaaDoorCards
import Derived.Test.YtebfekelonfcgaaDoorTie
import Derived.Test.YtebfekelonfcgaaDoorEther2
import Derived.Test.YtebfekelonfcgaaDoorBaseFrm
import Derived.Test.YtebfekelonfcgaaDoorGxLaid
import Derived.SevenTiedAt
set_option maxRecDepth 100000
namespace Go.Gx.S
open Go Go.Gx Go.Proofs

noncomputable abbrev laidE : List (String × DataW Unit) := [("bytes.ErrTooLarge", YtebfekelonfcgaaDoor.Rows.laid_bytes_ErrTooLarge)]
/-- the door's own heap meets the condition -/
theorem door_met (os : Os) (args : Array Value) : laidMetH Tryd.prog laidE ((World.doorLaid Tryd.prog 400 os).forCall (fun _ _ => 0) ⟨#[], args, []⟩).memory :=
  laidMetH_of_parts3 (fuel := 8) (laidMet_of_run' 8 (by kernel_rfl) (by kernel_rfl)) (by kernel_rfl) (by kernel_rfl)
end Go.Gx.S
