/- Addresses, bytes and texts among the program's types. -/
import Derived.Test.YtebfekelonfcgaaDoorBase
set_option maxRecDepth 100000
namespace Go.Gx.S
open Go Go.Gx Go.Proofs

theorem ctByte : Tryd.prog.cellsOf 5 = 1 := by kernel_rfl
theorem ctMac : Tryd.prog.cellsOf 23 = 6 := by kernel_rfl
instance : MacT Tryd.prog 23 5 := ⟨Tryd.underlying23, Tryd.underlying5, ctByte, ctMac⟩
instance : StrT Tryd.prog 9 := ⟨Tryd.underlying9⟩
instance : ByT Tryd.prog 24 := ⟨⟨_, Tryd.underlying24, Tryd.underlying5⟩⟩

end Go.Gx.S
