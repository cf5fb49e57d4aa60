/-
  NARROWER THAN 'FOR EVERY INPUT', by the rows' own cells (each row's printed sentence says how): RunColumns: laid · CoreChecks: loops, laid · CoreLowers: loops, laid.
  DERIVED. THE GIVEN ROWS OF THIS SEAT. 3 by the template 'for every input the law returns true; each argument reads behind the call as it read before'; 0 by the template 'total and deterministic' (their statements: YtppalmoicjogaaaDoorTotals.lean).
  GIVEN WITH THE SEED: the statements are not yours to turn. If you find one false, say at which input.
  Laid BY PROGRAM, IN A SANDBOX (cutbox-rows.mjs): the forced cells as the released guide's own fill.sh prints them over the translation de22cac271d5d366… (all of the seat's roots in one cut). By AI agents, Wed Nov 11 2026. No macro, syntax, notation, axiom, sorry.
-/
import Derived.Test.YtppalmoicjogaaaDoorChecked
import GoSem.PinnedTables
import GoSem.Claim
import GoSem.ClaimJoined
import GoSem.ClaimMapViews
import Derived.JoinedTies
import Derived.KernelRfl
namespace Go.Proofs.YtppalmoicjogaaaDoor
/- THE CELL 'sum', in the pinned program and in every row, IS THE sha256 OF THE DUMP (.gsa) THAT YtppalmoicjogaaaDoorProg.lean LOADS. Nothing in Lean hashes anything: it is a label: what it is worth is what the hold of that sum in a sandbox is worth. -/
noncomputable def Tryd.pinned : Pinned := { name := "ytppalmoicjogaaadoor", sum := "de22cac271d5d366fb84b24b5d51f884774ea2b2f577470bf4809ca5d7e4cd2f", checked := Tryd.checked }
namespace Rows
def none {H : Type} : Left H := { results := [], args := [] }

/- WHAT THE LISTED PACKAGE-LEVEL VARIABLES READ AS WHEN THE CALL BEGINS. Each datum BY PROGRAM (the guide's laid-datum.mjs) off the statement by which the dump's own 'gosem.cut.vars' lays the variable. In a bare row this is a premise. The card (YtppalmoicjogaaaDoorCards.lean) ties it to the program's text. -/
def laid_unicode_utf8_acceptRanges {H : Type} : DataW H := .agg [.agg [.lit (.int .u8 128), .lit (.int .u8 191)], .agg [.lit (.int .u8 160), .lit (.int .u8 191)], .agg [.lit (.int .u8 128), .lit (.int .u8 159)], .agg [.lit (.int .u8 144), .lit (.int .u8 191)], .agg [.lit (.int .u8 128), .lit (.int .u8 143)], .agg [.lit (.int .u8 0), .lit (.int .u8 0)], .agg [.lit (.int .u8 0), .lit (.int .u8 0)], .agg [.lit (.int .u8 0), .lit (.int .u8 0)], .agg [.lit (.int .u8 0), .lit (.int .u8 0)], .agg [.lit (.int .u8 0), .lit (.int .u8 0)], .agg [.lit (.int .u8 0), .lit (.int .u8 0)], .agg [.lit (.int .u8 0), .lit (.int .u8 0)], .agg [.lit (.int .u8 0), .lit (.int .u8 0)], .agg [.lit (.int .u8 0), .lit (.int .u8 0)], .agg [.lit (.int .u8 0), .lit (.int .u8 0)], .agg [.lit (.int .u8 0), .lit (.int .u8 0)]]
def laid_pleacher_run_inputs {H : Type} : DataW H := .agg [.lit (.int .i64 0), .lit (.int .i64 0), .lit (.int .i64 1), .lit (.int .i64 1), .lit (.int .i64 2), .lit (.int .i64 2), .lit (.int .i64 2), .lit (.int .i64 2), .lit (.int .i64 1), .lit (.int .i64 1), .lit (.int .i64 1), .lit (.int .i64 1), .lit (.int .i64 1), .lit (.int .i64 2), .lit (.int .i64 0), .lit (.int .i64 1)]
def laid_pleacher_run_arity {H : Type} : DataW H := .map [(.string [33, 61], .lit (.int .i64 2)), (.string [42], .lit (.int .i64 2)), (.string [43], .lit (.int .i64 2)), (.string [45], .lit (.int .i64 2)), (.string [60], .lit (.int .i64 2)), (.string [60, 60], .lit (.int .i64 2)), (.string [60, 61], .lit (.int .i64 2)), (.string [61], .lit (.int .i64 2)), (.string [62], .lit (.int .i64 2)), (.string [62, 61], .lit (.int .i64 2)), (.string [62, 62], .lit (.int .i64 2)), (.string [97, 110, 100], .lit (.int .i64 2)), (.string [99, 111, 110, 99, 97, 116], .lit (.int .i64 2)), (.string [99, 111, 110, 116, 97, 105, 110, 115], .lit (.int .i64 2)), (.string [100, 97, 116, 97], .lit (.int .i64 1)), (.string [100, 105, 118], .lit (.int .i64 2)), (.string [101, 98, 118], .lit (.int .i64 2)), (.string [104, 111, 108, 100, 115], .lit (.int .i64 3)), (.string [105, 110, 116, 101, 103, 101, 114], .lit (.int .i64 1)), (.string [105, 115], .lit (.int .i64 2)), (.string [108, 101, 110, 103, 116, 104], .lit (.int .i64 1)), (.string [109, 111, 100], .lit (.int .i64 2)), (.string [110, 97, 109, 101], .lit (.int .i64 1)), (.string [110, 101, 103], .lit (.int .i64 1)), (.string [110, 111, 100, 101], .lit (.int .i64 1)), (.string [110, 111, 116], .lit (.int .i64 1)), (.string [111, 110, 101], .lit (.int .i64 1)), (.string [111, 114], .lit (.int .i64 2)), (.string [115, 112, 97, 110], .lit (.int .i64 2)), (.string [115, 116, 97, 114, 116, 115], .lit (.int .i64 2)), (.string [115, 116, 114, 105, 110, 103], .lit (.int .i64 1)), (.string [115, 117, 98, 115, 116, 114, 105, 110, 103], .lit (.int .i64 3))]
/-- One of Go's own tables, pinned by name: the form's constant. -/
def laid_unicode_utf8_first : DataW Unit := Go.Pinned.utf8First
def laid_pleacher_core_arity {H : Type} : DataW H := .map [(.string [33, 61], .lit (.int .i64 2)), (.string [42], .lit (.int .i64 2)), (.string [43], .lit (.int .i64 2)), (.string [45], .lit (.int .i64 2)), (.string [60], .lit (.int .i64 2)), (.string [60, 60], .lit (.int .i64 2)), (.string [60, 61], .lit (.int .i64 2)), (.string [61], .lit (.int .i64 2)), (.string [62], .lit (.int .i64 2)), (.string [62, 61], .lit (.int .i64 2)), (.string [62, 62], .lit (.int .i64 2)), (.string [97, 110, 100], .lit (.int .i64 2)), (.string [98, 111, 111, 108, 101, 97, 110], .lit (.int .i64 1)), (.string [99, 111, 110, 99, 97, 116], .lit (.int .i64 2)), (.string [99, 111, 110, 116, 97, 105, 110, 115], .lit (.int .i64 2)), (.string [99, 111, 117, 110, 116], .lit (.int .i64 1)), (.string [100, 97, 116, 97], .lit (.int .i64 1)), (.string [100, 100, 111], .lit (.int .i64 1)), (.string [100, 105, 115, 116, 105, 110, 99, 116], .lit (.int .i64 1)), (.string [100, 105, 118], .lit (.int .i64 2)), (.string [101, 109, 112, 116, 121], .lit (.int .i64 1)), (.string [101, 120, 99, 101, 112, 116], .lit (.int .i64 2)), (.string [101, 120, 105, 115, 116, 115], .lit (.int .i64 1)), (.string [104, 111, 108, 100, 115], .lit (.int .i64 2)), (.string [105, 110, 116, 101, 103, 101, 114], .lit (.int .i64 1)), (.string [105, 110, 116, 101, 114, 115, 101, 99, 116], .lit (.int .i64 2)), (.string [105, 115], .lit (.int .i64 2)), (.string [108, 101, 110, 103, 116, 104], .lit (.int .i64 1)), (.string [109, 97, 120], .lit (.int .i64 1)), (.string [109, 105, 110], .lit (.int .i64 1)), (.string [109, 111, 100], .lit (.int .i64 2)), (.string [110, 97, 109, 101], .lit (.int .i64 1)), (.string [110, 101, 103], .lit (.int .i64 1)), (.string [110, 111, 116], .lit (.int .i64 1)), (.string [111, 114], .lit (.int .i64 2)), (.string [114, 101, 118, 101, 114, 115, 101], .lit (.int .i64 1)), (.string [115, 116, 97, 114, 116, 115], .lit (.int .i64 2)), (.string [115, 116, 114, 105, 110, 103], .lit (.int .i64 1)), (.string [115, 117, 98, 115, 116, 114, 105, 110, 103], .lit (.int .i64 3)), (.string [115, 117, 109], .lit (.int .i64 1)), (.string [116, 111], .lit (.int .i64 2)), (.string [117, 110, 105, 111, 110], .lit (.int .i64 2))]
def laid_pleacher_core_called {H : Type} : DataW H := .map [(.string [98, 111, 111, 108, 101, 97, 110], .lit (.string [98, 111, 111, 108, 101, 97, 110])), (.string [99, 111, 110, 99, 97, 116], .lit (.string [99, 111, 110, 99, 97, 116])), (.string [99, 111, 110, 116, 97, 105, 110, 115], .lit (.string [99, 111, 110, 116, 97, 105, 110, 115])), (.string [99, 111, 117, 110, 116], .lit (.string [99, 111, 117, 110, 116])), (.string [100, 97, 116, 97], .lit (.string [100, 97, 116, 97])), (.string [100, 105, 115, 116, 105, 110, 99, 116, 45, 118, 97, 108, 117, 101, 115], .lit (.string [100, 105, 115, 116, 105, 110, 99, 116])), (.string [101, 109, 112, 116, 121], .lit (.string [101, 109, 112, 116, 121])), (.string [101, 120, 105, 115, 116, 115], .lit (.string [101, 120, 105, 115, 116, 115])), (.string [105, 110, 116, 101, 103, 101, 114], .lit (.string [105, 110, 116, 101, 103, 101, 114])), (.string [109, 97, 120], .lit (.string [109, 97, 120])), (.string [109, 105, 110], .lit (.string [109, 105, 110])), (.string [110, 97, 109, 101], .lit (.string [110, 97, 109, 101])), (.string [110, 111, 116], .lit (.string [110, 111, 116])), (.string [114, 101, 118, 101, 114, 115, 101], .lit (.string [114, 101, 118, 101, 114, 115, 101])), (.string [115, 116, 97, 114, 116, 115, 45, 119, 105, 116, 104], .lit (.string [115, 116, 97, 114, 116, 115])), (.string [115, 116, 114, 105, 110, 103], .lit (.string [115, 116, 114, 105, 110, 103])), (.string [115, 116, 114, 105, 110, 103, 45, 108, 101, 110, 103, 116, 104], .lit (.string [108, 101, 110, 103, 116, 104])), (.string [115, 117, 98, 115, 116, 114, 105, 110, 103], .lit (.string [115, 117, 98, 115, 116, 114, 105, 110, 103])), (.string [115, 117, 109], .lit (.string [115, 117, 109]))]
def laid_pleacher_core_operators {H : Type} : DataW H := .map [(.string [33, 61], .lit (.string [33, 61])), (.string [42], .lit (.string [42])), (.string [43], .lit (.string [43])), (.string [45], .lit (.string [45])), (.string [60], .lit (.string [60])), (.string [60, 60], .lit (.string [60, 60])), (.string [60, 61], .lit (.string [60, 61])), (.string [61], .lit (.string [61])), (.string [62], .lit (.string [62])), (.string [62, 61], .lit (.string [62, 61])), (.string [62, 62], .lit (.string [62, 62])), (.string [97, 110, 100], .lit (.string [97, 110, 100])), (.string [100, 105, 118], .lit (.string [100, 105, 118])), (.string [101, 120, 99, 101, 112, 116], .lit (.string [101, 120, 99, 101, 112, 116])), (.string [105, 110, 116, 101, 114, 115, 101, 99, 116], .lit (.string [105, 110, 116, 101, 114, 115, 101, 99, 116])), (.string [105, 115], .lit (.string [105, 115])), (.string [109, 111, 100], .lit (.string [109, 111, 100])), (.string [111, 114], .lit (.string [111, 114])), (.string [116, 111], .lit (.string [116, 111])), (.string [117, 110, 105, 111, 110], .lit (.string [117, 110, 105, 111, 110])), (.string [124], .lit (.string [117, 110, 105, 111, 110]))]

/-- 'pleacherlaw.RunColumns': WHATEVER THE INPUT: true; the input reads as it did. -/
def runColumnsSpec : ChangeSpec := { name := "runColumns", fn := fun _ => fun
  | [d] => { results := [.lit (.bool true)], args := [d] }
  | _ => none }
def runColumnsRow : OpenClaim := { program := "ytppalmoicjogaaadoor", sum := "de22cac271d5d366fb84b24b5d51f884774ea2b2f577470bf4809ca5d7e4cd2f", func := "pleacher/pleacherlaw.RunColumns", spec := "runColumns", unfollowed := true, recurses := true, named := ["pleacher/run.inputs", "pleacher/run.arity", "unicode/utf8.first", "unicode/utf8.acceptRanges"], apart := false, laid := [("unicode/utf8.acceptRanges", laid_unicode_utf8_acceptRanges), ("pleacher/run.inputs", laid_pleacher_run_inputs), ("pleacher/run.arity", laid_pleacher_run_arity), ("unicode/utf8.first", laid_unicode_utf8_first)] }
def RunColumnsSaid : Prop := runColumnsRow.holds Tryd.pinned (OpenSpec.ofChange runColumnsSpec)

/-- ITS FALSE NEIGHBOUR: 'it returns false'. Refute it at one input. -/
def runColumnsWrong : ChangeSpec := { name := "runColumns", fn := fun _ => fun
  | [d] => { results := [.lit (.bool false)], args := [d] }
  | _ => none }
def RunColumnsWrongFalsely : Prop := runColumnsRow.holds Tryd.pinned (OpenSpec.ofChange runColumnsWrong)

/-- 'pleacherlaw.CoreChecks': WHATEVER THE INPUT: true; the input reads as it did. -/
def coreChecksSpec : ChangeSpec := { name := "coreChecks", fn := fun _ => fun
  | [d] => { results := [.lit (.bool true)], args := [d] }
  | _ => none }
def coreChecksRow : OpenClaim := { program := "ytppalmoicjogaaadoor", sum := "de22cac271d5d366fb84b24b5d51f884774ea2b2f577470bf4809ca5d7e4cd2f", func := "pleacher/pleacherlaw.CoreChecks", spec := "coreChecks", recurses := true, named := ["pleacher/core.arity", "unicode/utf8.first", "unicode/utf8.acceptRanges"], loops := true, apart := false, laid := [("unicode/utf8.acceptRanges", laid_unicode_utf8_acceptRanges), ("pleacher/core.arity", laid_pleacher_core_arity), ("unicode/utf8.first", laid_unicode_utf8_first)] }
def CoreChecksSaid : Prop := coreChecksRow.holds Tryd.pinned (OpenSpec.ofChange coreChecksSpec)

/-- ITS FALSE NEIGHBOUR: 'it returns false'. Refute it at one input. -/
def coreChecksWrong : ChangeSpec := { name := "coreChecks", fn := fun _ => fun
  | [d] => { results := [.lit (.bool false)], args := [d] }
  | _ => none }
def CoreChecksWrongFalsely : Prop := coreChecksRow.holds Tryd.pinned (OpenSpec.ofChange coreChecksWrong)

/-- 'pleacherlaw.CoreLowers': WHATEVER THE INPUT: true; the input reads as it did. -/
def coreLowersSpec : ChangeSpec := { name := "coreLowers", fn := fun _ => fun
  | [d] => { results := [.lit (.bool true)], args := [d] }
  | _ => none }
def coreLowersRow : OpenClaim := { program := "ytppalmoicjogaaadoor", sum := "de22cac271d5d366fb84b24b5d51f884774ea2b2f577470bf4809ca5d7e4cd2f", func := "pleacher/pleacherlaw.CoreLowers", spec := "coreLowers", recurses := true, named := ["pleacher/core.operators", "unicode/utf8.first", "unicode/utf8.acceptRanges", "pleacher/core.called", "pleacher/core.arity"], loops := true, apart := false, laid := [("unicode/utf8.acceptRanges", laid_unicode_utf8_acceptRanges), ("pleacher/core.arity", laid_pleacher_core_arity), ("pleacher/core.called", laid_pleacher_core_called), ("pleacher/core.operators", laid_pleacher_core_operators), ("unicode/utf8.first", laid_unicode_utf8_first)] }
def CoreLowersSaid : Prop := coreLowersRow.holds Tryd.pinned (OpenSpec.ofChange coreLowersSpec)

/-- ITS FALSE NEIGHBOUR: 'it returns false'. Refute it at one input. -/
def coreLowersWrong : ChangeSpec := { name := "coreLowers", fn := fun _ => fun
  | [d] => { results := [.lit (.bool false)], args := [d] }
  | _ => none }
def CoreLowersWrongFalsely : Prop := coreLowersRow.holds Tryd.pinned (OpenSpec.ofChange coreLowersWrong)

/- THE SECOND FORM. 'bulk': how many values and letters a reading holds, each counted each time it is reached (what is shared counts as often as it is met; a slice's spare places count too). A statement '..UptoSaid' is the law's where the arguments, and the package variables that the reading takes, are together of bulk at most 1048576: NARROWER than '..Said'. Prove '..Said' where nothing that the law and all that it calls make is longer than what came in: it says more and counts as full. Else prove '..UptoSaid'. A law counts once. -/
mutual
def uptoBulk {H : Type} : DataW H → Nat
  | .lit (.string bytes) => bytes.length + 1
  | .lit _ => 1
  | .nil => 1
  | .ptr d => uptoBulk d + 1
  | .slice elems spare => uptoBulkAll elems + uptoBulkAll spare + 1
  | .agg parts => uptoBulkAll parts + 1
  | .iface _ d => uptoBulk d + 1
  | .map entries => uptoBulkEntries entries + 1
  | .held _ => 1
def uptoBulkAll {H : Type} : List (DataW H) → Nat
  | [] => 0
  | d :: r => uptoBulk d + uptoBulkAll r
def uptoBulkEntries {H : Type} : List (Lit × DataW H) → Nat
  | [] => 0
  | x :: r => uptoBulkEntry x + uptoBulkEntries r
def uptoBulkEntry {H : Type} : Lit × DataW H → Nat
  | (.string bytes, d) => bytes.length + uptoBulk d + 1
  | (_, d) => uptoBulk d + 1
 end
def uptoSmall : (H : Type) → List (DataW H) → Bool := fun _ ds => decide (uptoBulkAll ds ≤ 1048576)
def OpenSpec.upto (s : _root_.Go.ChangeSpec) : _root_.Go.OpenSpec := { _root_.Go.OpenSpec.ofChange s with cond := some uptoSmall }

/-- 'pleacherlaw.RunColumns', WHERE WHAT IT READS IS OF BULK AT MOST 1048576: true; the input reads as it did. -/
def runColumnsUptoRow : OpenClaim := { program := "ytppalmoicjogaaadoor", sum := "de22cac271d5d366fb84b24b5d51f884774ea2b2f577470bf4809ca5d7e4cd2f", func := "pleacher/pleacherlaw.RunColumns", spec := "runColumns", unfollowed := true, recurses := true, named := ["pleacher/run.inputs", "pleacher/run.arity", "unicode/utf8.first", "unicode/utf8.acceptRanges"], apart := false, laid := [("unicode/utf8.acceptRanges", laid_unicode_utf8_acceptRanges), ("pleacher/run.inputs", laid_pleacher_run_inputs), ("pleacher/run.arity", laid_pleacher_run_arity), ("unicode/utf8.first", laid_unicode_utf8_first)], narrowed := true }
def RunColumnsUptoSaid : Prop := runColumnsUptoRow.holds Tryd.pinned (OpenSpec.upto runColumnsSpec)

/-- 'pleacherlaw.CoreChecks', WHERE WHAT IT READS IS OF BULK AT MOST 1048576: true; the input reads as it did. -/
def coreChecksUptoRow : OpenClaim := { program := "ytppalmoicjogaaadoor", sum := "de22cac271d5d366fb84b24b5d51f884774ea2b2f577470bf4809ca5d7e4cd2f", func := "pleacher/pleacherlaw.CoreChecks", spec := "coreChecks", recurses := true, named := ["pleacher/core.arity", "unicode/utf8.first", "unicode/utf8.acceptRanges"], loops := true, apart := false, laid := [("unicode/utf8.acceptRanges", laid_unicode_utf8_acceptRanges), ("pleacher/core.arity", laid_pleacher_core_arity), ("unicode/utf8.first", laid_unicode_utf8_first)], narrowed := true }
def CoreChecksUptoSaid : Prop := coreChecksUptoRow.holds Tryd.pinned (OpenSpec.upto coreChecksSpec)

/-- 'pleacherlaw.CoreLowers', WHERE WHAT IT READS IS OF BULK AT MOST 1048576: true; the input reads as it did. -/
def coreLowersUptoRow : OpenClaim := { program := "ytppalmoicjogaaadoor", sum := "de22cac271d5d366fb84b24b5d51f884774ea2b2f577470bf4809ca5d7e4cd2f", func := "pleacher/pleacherlaw.CoreLowers", spec := "coreLowers", recurses := true, named := ["pleacher/core.operators", "unicode/utf8.first", "unicode/utf8.acceptRanges", "pleacher/core.called", "pleacher/core.arity"], loops := true, apart := false, laid := [("unicode/utf8.acceptRanges", laid_unicode_utf8_acceptRanges), ("pleacher/core.arity", laid_pleacher_core_arity), ("pleacher/core.called", laid_pleacher_core_called), ("pleacher/core.operators", laid_pleacher_core_operators), ("unicode/utf8.first", laid_unicode_utf8_first)], narrowed := true }
def CoreLowersUptoSaid : Prop := coreLowersUptoRow.holds Tryd.pinned (OpenSpec.upto coreLowersSpec)

end Rows
end Go.Proofs.YtppalmoicjogaaaDoor
