/- Natural numbers as cells. No condition. -/
import Derived.Test.YtjghnaohlfgloaaDoorJ17
set_option linter.all false
set_option linter.unusedSimpArgs false
set_option linter.unusedVariables false
namespace Go.Proofs.YtjghnaohlfgloaaDoor
open Go Go.Proofs.YtjghnaohlfgloaaDoor.Ab
variable [Glo]
def natCells (e : Nat) : List V := [.d (.i .i64 (e : Int))]
theorem obBel_nat (m ver e sz : Nat) (xs : List Nat) : ObBel m (.row ver e sz (xs.map natCells)) := obBel_map (fun e => [D.i .i64 ((e : Nat) : Int)]) m ver e sz xs
end Go.Proofs.YtjghnaohlfgloaaDoor
