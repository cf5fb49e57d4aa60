/- Data, as cells hold them. No condition. -/
import Derived.WalkKit
import Derived.RowKit3
set_option linter.all false
set_option linter.unusedSimpArgs false
set_option linter.unusedVariables false
namespace Go.Proofs.YtmalccaijjcepaaDoor.Ab
open Go

/-- What sort of plain value a key's cell holds. -/
inductive Kd : Type where
  | i (k : IntKind)
  | s
  | b
  deriving DecidableEq, Inhabited

/-- Data: a cell's content, read through. -/
inductive D : Type where
  | i (k : IntKind) (n : Int)
  | b (t : Bool)
  | s (l : List UInt8)
  | c (v : Value)
  | sl (sz : Nat) (rows : List (List D))
  | m (sh : List Kd) (ks : List (List D)) (vs : List D)
  deriving Inhabited

def kdOf : D → Option Kd
  | .i k _ => some (.i k)
  | .b _ => some .b
  | .s _ => some .s
  | _ => none
/-- A key of a map, as the model holds it. -/
def keyC : D → Value
  | .i k n => .int k n
  | .b t => .bool t
  | .s l => .string ⟨l.toArray⟩
  | _ => .bool false
def keyVal : List D → Value
  | [x] => keyC x
  | l => .agg (l.map keyC).toArray

/-- The package variables whose cells are known when a call begins. -/
class Glo where
  glob : Nat → Option (List D)
def glob [Glo] (g : Nat) : Option (List D) := Glo.glob g
end Go.Proofs.YtmalccaijjcepaaDoor.Ab
