/- Addresses, bytes and texts among the program's types. -/
import Derived.Test.YtclkdldkebjgpaaBase
set_option maxRecDepth 100000
namespace Go.Gx.S
open Go Go.Gx Go.Proofs

theorem ctByte : Try.prog.cellsOf 5 = 1 := by kernel_rfl
theorem ctMac : Try.prog.cellsOf 34 = 6 := by kernel_rfl
instance : MacT Try.prog 34 5 := ⟨Try.underlying34, Try.underlying5, ctByte, ctMac⟩
instance : StrT Try.prog 9 := ⟨Try.underlying9⟩
instance : ByT Try.prog 126 := ⟨⟨_, Try.underlying126, Try.underlying5⟩⟩

end Go.Gx.S
