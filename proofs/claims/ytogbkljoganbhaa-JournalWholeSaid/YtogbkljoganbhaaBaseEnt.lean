/- Entries among the program's types. -/
import Derived.Test.YtogbkljoganbhaaBaseMac
import Derived.Test.YtogbkljoganbhaaGxRep
set_option maxRecDepth 100000
namespace Go.Gx.S
open Go Go.Gx Go.Proofs
theorem ctEnt : Try.prog.cellsOf 36 = 10 := by kernel_rfl
instance : EntT Try.prog 36 3 34 4 := ⟨⟨_, _, _, _, _, _, _, _, _, _, _, _, _, _, _, Try.underlying36, by decide, by decide, by decide, by decide, by decide⟩, uInt, uBool, ctInt, ctBool, ctEnt⟩
end Go.Gx.S
