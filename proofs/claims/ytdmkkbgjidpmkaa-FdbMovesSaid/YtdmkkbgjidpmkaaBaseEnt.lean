/- Entries among the program's types. -/
import Derived.Test.YtdmkkbgjidpmkaaBaseMac
import Derived.Test.YtdmkkbgjidpmkaaGxRep
set_option maxRecDepth 100000
namespace Go.Gx.S
open Go Go.Gx Go.Proofs
theorem ctEnt : Try.prog.cellsOf 33 = 10 := by kernel_rfl
instance : EntT Try.prog 33 3 24 4 := ⟨⟨_, _, _, _, _, _, _, _, _, _, _, _, _, _, _, Try.underlying33, by decide, by decide, by decide, by decide, by decide⟩, uInt, uBool, ctInt, ctBool, ctEnt⟩
end Go.Gx.S
