/-
  No cell of these rows narrows 'for every input' (looked for: loops, veiled, ifaces, maps, wideKeys, modest, calm, conditions, laid).
  DERIVED. THE GIVEN ROWS OF THIS SEAT. 3 by the template 'for every input the law returns true; each argument reads behind the call as it read before'; 0 by the template 'total and deterministic' (their statements: YtmalccaijjcepaaTotals.lean).
  GIVEN WITH THE SEED: the statements are not yours to turn. If you find one false, say at which input.
  Laid BY PROGRAM, IN A SANDBOX (cutbox-rows.mjs): the forced cells as the released guide's own fill.sh prints them over the translation d3dc1b644c87c952… (all of the seat's roots in one cut). By AI agents, Wed Nov 11 2026. No macro, syntax, notation, axiom, sorry.
-/
import Derived.Test.YtmalccaijjcepaaChecked
import GoSem.Claim
import GoSem.ClaimJoined
import GoSem.ClaimMapViews
import Derived.JoinedTies
import Derived.KernelRfl
namespace Go.Proofs.Ytmalccaijjcepaa
/- THE CELL 'sum', in the pinned program and in every row, IS THE sha256 OF THE DUMP (.gsa) THAT YtmalccaijjcepaaProg.lean LOADS. Nothing in Lean hashes anything: it is a label: what it is worth is what the hold of that sum in a sandbox is worth. -/
noncomputable def Try.pinned : Pinned := { name := "ytmalccaijjcepaa", sum := "d3dc1b644c87c95273343de0980989ffab7ef2925542d1335b69b16f8b251114", checked := Try.checked }
namespace Rows
def none {H : Type} : Left H := { results := [], args := [] }

/-- 'pleacherlaw.Names': WHATEVER THE INPUT: true; the input reads as it did. -/
def namesSpec : ChangeSpec := { name := "names", fn := fun _ => fun
  | [] => { results := [.lit (.bool true)], args := [] }
  | _ => none }
def namesRow : OpenClaim := { program := "ytmalccaijjcepaa", sum := "d3dc1b644c87c95273343de0980989ffab7ef2925542d1335b69b16f8b251114", func := "pleacher/pleacherlaw.Names", spec := "names", apart := false }
def NamesSaid : Prop := namesRow.holds Try.pinned (OpenSpec.ofChange namesSpec)

/-- ITS FALSE NEIGHBOUR: 'it returns false'. Refute it at one input. -/
def namesWrong : ChangeSpec := { name := "names", fn := fun _ => fun
  | [] => { results := [.lit (.bool false)], args := [] }
  | _ => none }
def NamesWrongFalsely : Prop := namesRow.holds Try.pinned (OpenSpec.ofChange namesWrong)

/-- 'pleacherlaw.XmlNames': WHATEVER THE INPUT: true; the input reads as it did. -/
def xmlNamesSpec : ChangeSpec := { name := "xmlNames", fn := fun _ => fun
  | [d] => { results := [.lit (.bool true)], args := [d] }
  | _ => none }
def xmlNamesRow : OpenClaim := { program := "ytmalccaijjcepaa", sum := "d3dc1b644c87c95273343de0980989ffab7ef2925542d1335b69b16f8b251114", func := "pleacher/pleacherlaw.XmlNames", spec := "xmlNames", apart := false }
def XmlNamesSaid : Prop := xmlNamesRow.holds Try.pinned (OpenSpec.ofChange xmlNamesSpec)

/-- ITS FALSE NEIGHBOUR: 'it returns false'. Refute it at one input. -/
def xmlNamesWrong : ChangeSpec := { name := "xmlNames", fn := fun _ => fun
  | [d] => { results := [.lit (.bool false)], args := [d] }
  | _ => none }
def XmlNamesWrongFalsely : Prop := xmlNamesRow.holds Try.pinned (OpenSpec.ofChange xmlNamesWrong)

/-- 'pleacherlaw.RelCompares': WHATEVER THE INPUT: true; the input reads as it did. -/
def relComparesSpec : ChangeSpec := { name := "relCompares", fn := fun _ => fun
  | [d1, d2] => { results := [.lit (.bool true)], args := [d1, d2] }
  | _ => none }
def relComparesRow : OpenClaim := { program := "ytmalccaijjcepaa", sum := "d3dc1b644c87c95273343de0980989ffab7ef2925542d1335b69b16f8b251114", func := "pleacher/pleacherlaw.RelCompares", spec := "relCompares", inPlace := ["internal/bytealg.abigen_runtime_cmpstring"], apart := false }
def RelComparesSaid : Prop := relComparesRow.holds Try.pinned (OpenSpec.ofChange relComparesSpec)

/-- ITS FALSE NEIGHBOUR: 'it returns false'. Refute it at one input. -/
def relComparesWrong : ChangeSpec := { name := "relCompares", fn := fun _ => fun
  | [d1, d2] => { results := [.lit (.bool false)], args := [d1, d2] }
  | _ => none }
def RelComparesWrongFalsely : Prop := relComparesRow.holds Try.pinned (OpenSpec.ofChange relComparesWrong)

/- THE SECOND FORM. 'bulk': how many values and letters a reading holds, each counted each time it is reached (what is shared counts as often as it is met; a slice's spare places count too). A statement '..UptoSaid' is the law's where the arguments, and the package variables that the reading takes, are together of bulk at most 1048576: NARROWER than '..Said'. Prove '..Said' where nothing that the law and all that it calls make is longer than what came in: it says more and counts as full. Else prove '..UptoSaid'. A law counts once. -/
mutual
def uptoBulk {H : Type} : DataW H → Nat
  | .lit (.string bytes) => bytes.length + 1
  | .lit _ => 1
  | .nil => 1
  | .ptr d => uptoBulk d + 1
  | .slice elems spare => uptoBulkAll elems + uptoBulkAll spare + 1
  | .agg parts => uptoBulkAll parts + 1
  | .iface _ d => uptoBulk d + 1
  | .map entries => uptoBulkEntries entries + 1
  | .held _ => 1
def uptoBulkAll {H : Type} : List (DataW H) → Nat
  | [] => 0
  | d :: r => uptoBulk d + uptoBulkAll r
def uptoBulkEntries {H : Type} : List (Lit × DataW H) → Nat
  | [] => 0
  | x :: r => uptoBulkEntry x + uptoBulkEntries r
def uptoBulkEntry {H : Type} : Lit × DataW H → Nat
  | (.string bytes, d) => bytes.length + uptoBulk d + 1
  | (_, d) => uptoBulk d + 1
 end
def uptoSmall : (H : Type) → List (DataW H) → Bool := fun _ ds => decide (uptoBulkAll ds ≤ 1048576)
def OpenSpec.upto (s : _root_.Go.ChangeSpec) : _root_.Go.OpenSpec := { _root_.Go.OpenSpec.ofChange s with cond := some uptoSmall }

/-- 'pleacherlaw.Names', WHERE WHAT IT READS IS OF BULK AT MOST 1048576: true; the input reads as it did. -/
def namesUptoRow : OpenClaim := { program := "ytmalccaijjcepaa", sum := "d3dc1b644c87c95273343de0980989ffab7ef2925542d1335b69b16f8b251114", func := "pleacher/pleacherlaw.Names", spec := "names", apart := false, narrowed := true }
def NamesUptoSaid : Prop := namesUptoRow.holds Try.pinned (OpenSpec.upto namesSpec)

/-- 'pleacherlaw.XmlNames', WHERE WHAT IT READS IS OF BULK AT MOST 1048576: true; the input reads as it did. -/
def xmlNamesUptoRow : OpenClaim := { program := "ytmalccaijjcepaa", sum := "d3dc1b644c87c95273343de0980989ffab7ef2925542d1335b69b16f8b251114", func := "pleacher/pleacherlaw.XmlNames", spec := "xmlNames", apart := false, narrowed := true }
def XmlNamesUptoSaid : Prop := xmlNamesUptoRow.holds Try.pinned (OpenSpec.upto xmlNamesSpec)

/-- 'pleacherlaw.RelCompares', WHERE WHAT IT READS IS OF BULK AT MOST 1048576: true; the input reads as it did. -/
def relComparesUptoRow : OpenClaim := { program := "ytmalccaijjcepaa", sum := "d3dc1b644c87c95273343de0980989ffab7ef2925542d1335b69b16f8b251114", func := "pleacher/pleacherlaw.RelCompares", spec := "relCompares", inPlace := ["internal/bytealg.abigen_runtime_cmpstring"], apart := false, narrowed := true }
def RelComparesUptoSaid : Prop := relComparesUptoRow.holds Try.pinned (OpenSpec.upto relComparesSpec)

end Rows
end Go.Proofs.Ytmalccaijjcepaa
