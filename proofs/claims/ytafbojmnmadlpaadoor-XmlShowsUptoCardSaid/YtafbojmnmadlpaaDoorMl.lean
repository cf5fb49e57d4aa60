/- What package bytealg calls its greatest length is there. No condition. -/
import Derived.Test.YtafbojmnmadlpaaDoorTi
set_option linter.all false
set_option linter.unusedSimpArgs false
set_option linter.unusedVariables false
namespace Go.Proofs.YtafbojmnmadlpaaDoor
open Go Go.Proofs.YtafbojmnmadlpaaDoor.Ab
variable [Glo]
/-- The package variable internal/bytealg.MaxLen holds some number. -/
class Ml [Glo] : Prop where
  maxl : ∃ m, glob 4 = some [D.i .i64 m]
end Go.Proofs.YtafbojmnmadlpaaDoor
