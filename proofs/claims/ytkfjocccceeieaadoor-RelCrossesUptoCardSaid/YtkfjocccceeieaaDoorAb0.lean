/- Data, as cells hold them. No condition. -/
import Derived.WalkKit
import Derived.RowKit3
set_option linter.all false
set_option linter.unusedSimpArgs false
set_option linter.unusedVariables false
namespace Go.Proofs.YtkfjocccceeieaaDoor.Ab
open Go

/-- Data: a cell's content, read through. -/
inductive D : Type where
  | i (k : IntKind) (n : Int)
  | b (t : Bool)
  | s (l : List UInt8)
  | c (v : Value)
  | sl (sz : Nat) (rows : List (List D))
  deriving Inhabited

/-- The package variables whose cells are known when a call begins. -/
class Glo where
  glob : Nat → Option (List D)
def glob [Glo] (g : Nat) : Option (List D) := Glo.glob g
end Go.Proofs.YtkfjocccceeieaaDoor.Ab
