/- The table of marks. No condition. -/
import Derived.Test.YtmalccaijjcepaaDoorRc0
set_option linter.all false
set_option linter.unusedSimpArgs false
set_option linter.unusedVariables false
namespace Go.Proofs.YtmalccaijjcepaaDoor
open Go Go.Proofs.YtmalccaijjcepaaDoor.Ab
/-- The table of marks, as a package variable holds it. -/
def marksRow : List D := marksL.map D.s
class Mk [Glo] : Prop where
  marks : glob 0 = some marksRow
end Go.Proofs.YtmalccaijjcepaaDoor
