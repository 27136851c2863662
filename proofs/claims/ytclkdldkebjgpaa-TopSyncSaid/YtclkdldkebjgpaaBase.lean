/- What is asked of the program as a whole. -/
import Derived.Test.YtclkdldkebjgpaaTy
import Derived.Test.YtclkdldkebjgpaaGxFrame
set_option maxRecDepth 100000
namespace Go.Gx.S
open Go Go.Gx Go.Proofs

theorem laidOut : laidOutB Try.prog = true := by kernel_rfl
theorem ctInt : Try.prog.cellsOf 3 = 1 := by kernel_rfl
theorem ctBool : Try.prog.cellsOf 4 = 1 := by kernel_rfl
theorem uInt : Try.prog.underlying 3 = some (.int .i64) := Try.underlying3
theorem uBool : Try.prog.underlying 4 = some .bool := Try.underlying4
theorem own : ownKnob Try.prog.godebug = none := by kernel_rfl

end Go.Gx.S
