/- Entries among the program's types. -/
import Derived.Test.YtclkdldkebjgpaaBaseMac
import Derived.Test.YtclkdldkebjgpaaGxRep
set_option maxRecDepth 100000
namespace Go.Gx.S
open Go Go.Gx Go.Proofs
theorem ctEnt : Try.prog.cellsOf 40 = 10 := by kernel_rfl
instance : EntT Try.prog 40 3 34 4 := ⟨⟨_, _, _, _, _, _, _, _, _, _, _, _, _, _, _, Try.underlying40, by decide, by decide, by decide, by decide, by decide⟩, uInt, uBool, ctInt, ctBool, ctEnt⟩
end Go.Gx.S
