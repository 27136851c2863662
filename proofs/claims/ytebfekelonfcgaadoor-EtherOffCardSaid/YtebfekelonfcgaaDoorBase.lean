/- What is asked of the program as a whole. -/
import Derived.Test.YtebfekelonfcgaaDoorTy
import Derived.Test.YtebfekelonfcgaaDoorGxFrame
set_option maxRecDepth 100000
namespace Go.Gx.S
open Go Go.Gx Go.Proofs

theorem laidOut : laidOutB Tryd.prog = true := by kernel_rfl
theorem ctInt : Tryd.prog.cellsOf 3 = 1 := by kernel_rfl
theorem ctBool : Tryd.prog.cellsOf 4 = 1 := by kernel_rfl
theorem uInt : Tryd.prog.underlying 3 = some (.int .i64) := Tryd.underlying3
theorem uBool : Tryd.prog.underlying 4 = some .bool := Tryd.underlying4
theorem own : ownKnob Tryd.prog.godebug = none := by kernel_rfl

end Go.Gx.S
