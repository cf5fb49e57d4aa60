/- Data, as cells hold them. No condition. -/
import Derived.WalkKit
import Derived.RowKit3
set_option linter.all false
set_option linter.unusedSimpArgs false
set_option linter.unusedVariables false
namespace Go.Proofs.YtpgdflhcmijaiaaDoor.Ab
open Go
inductive Kd : Type where
  | i (k : IntKind)
  | s
  | b
  deriving DecidableEq, Inhabited
inductive D : Type where
  | i (k : IntKind) (n : Int)
  | b (t : Bool)
  | s (l : List UInt8)
  | c (v : Value)
  | sl (sz : Nat) (rows : List (List D))
  | m (sh : List Kd) (ks : List (List D)) (vs : List D)
  deriving Inhabited
def kdOf : D → Option Kd
  | .i k _ => some (.i k)
  | .b _ => some .b
  | .s _ => some .s
  | _ => none
def keyC : D → Value
  | .i k n => .int k n
  | .b t => .bool t
  | .s l => .string ⟨l.toArray⟩
  | _ => .bool false
def keyVal : List D → Value
  | [x] => keyC x
  | l => .agg (l.map keyC).toArray
class Glo where
  glob : Nat → Option (List D)
def glob [Glo] (g : Nat) : Option (List D) := Glo.glob g
end Go.Proofs.YtpgdflhcmijaiaaDoor.Ab
