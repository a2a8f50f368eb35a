/- What the rows' proofs share at the top. Conditions: none. -/
import Derived.Test.YtjfnbcifafmefaaRows
import Derived.Test.YtjfnbcifafmefaaBase
import Derived.Test.YtjfnbcifafmefaaAmT
import Derived.Test.YtjfnbcifafmefaaTy
import Derived.ProofKit
import Derived.OpenShut
import Derived.ShutString
import Derived.ChangeOld
import Derived.Lib.SmallJoins
namespace Go.Proofs.Ytjfnbcifafmefaa
set_option linter.unusedSimpArgs false
set_option linter.unusedVariables false
open Go.RowKit
theorem own : ownKnob Try.prog.godebug = none := by kernel_rfl
theorem laidOut : laidOutB Try.prog = true := by kernel_rfl
end Go.Proofs.Ytjfnbcifafmefaa
