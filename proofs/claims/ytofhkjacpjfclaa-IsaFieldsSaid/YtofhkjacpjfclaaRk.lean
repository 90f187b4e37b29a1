/- Printed by rowgen.py: what this program's rows share. -/
import Derived.Test.YtofhkjacpjfclaaMirY
import Derived.Test.YtofhkjacpjfclaaRows
import Derived.KernelRfl
import Derived.SizedLaws
namespace Go.Proofs.Ytofhkjacpjfclaa
open Go Go.ChangeShapes Go.WideShapes Go.RowKit Mir
set_option linter.unusedVariables false
set_option linter.unusedSimpArgs false

namespace Rk
theorem own : ownKnob Try.prog.godebug = none := by kernel_rfl
theorem laidOut : laidOutB Try.prog = true := by kernel_rfl
end Rk
end Go.Proofs.Ytofhkjacpjfclaa
