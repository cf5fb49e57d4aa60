/-
  NARROWER THAN 'FOR EVERY INPUT', by the rows' own cells (each row's printed sentence says how): ReadParses: laid.
  DERIVED. THE GIVEN ROWS OF THIS SEAT. 1 by the template 'for every input the law returns true; each argument reads behind the call as it read before'; 0 by the template 'total and deterministic' (their statements: YtmhabdopcbokoaaDoorTotals.lean).
  GIVEN WITH THE SEED: the statements are not yours to turn. If you find one false, say at which input.
  Laid BY PROGRAM, IN A SANDBOX (cutbox-rows.mjs): the forced cells as the released guide's own fill.sh prints them over the translation c78d48d124099bff… (all of the seat's roots in one cut). By AI agents, Wed Nov 11 2026. No macro, syntax, notation, axiom, sorry.
-/
import Derived.Test.YtmhabdopcbokoaaDoorChecked
import GoSem.PinnedTables
import GoSem.Claim
import GoSem.ClaimJoined
import GoSem.ClaimMapViews
import Derived.JoinedTies
import Derived.KernelRfl
namespace Go.Proofs.YtmhabdopcbokoaaDoor
/- THE CELL 'sum', in the pinned program and in every row, IS THE sha256 OF THE DUMP (.gsa) THAT YtmhabdopcbokoaaDoorProg.lean LOADS. Nothing in Lean hashes anything: it is a label: what it is worth is what the hold of that sum in a sandbox is worth. -/
noncomputable def Tryd.pinned : Pinned := { name := "ytmhabdopcbokoaadoor", sum := "c78d48d124099bff44c7bef03bea14f3e7b938952358d3a84b4e057fcfeb4e6c", checked := Tryd.checked }
namespace Rows
def none {H : Type} : Left H := { results := [], args := [] }

/- WHAT THE LISTED PACKAGE-LEVEL VARIABLES READ AS WHEN THE CALL BEGINS. Each datum BY PROGRAM (the guide's laid-datum.mjs) off the statement by which the dump's own 'gosem.cut.vars' lays the variable. In a bare row this is a premise. The card (YtmhabdopcbokoaaDoorCards.lean) ties it to the program's text. -/
def laid_unicode_utf8_acceptRanges {H : Type} : DataW H := .agg [.agg [.lit (.int .u8 128), .lit (.int .u8 191)], .agg [.lit (.int .u8 160), .lit (.int .u8 191)], .agg [.lit (.int .u8 128), .lit (.int .u8 159)], .agg [.lit (.int .u8 144), .lit (.int .u8 191)], .agg [.lit (.int .u8 128), .lit (.int .u8 143)], .agg [.lit (.int .u8 0), .lit (.int .u8 0)], .agg [.lit (.int .u8 0), .lit (.int .u8 0)], .agg [.lit (.int .u8 0), .lit (.int .u8 0)], .agg [.lit (.int .u8 0), .lit (.int .u8 0)], .agg [.lit (.int .u8 0), .lit (.int .u8 0)], .agg [.lit (.int .u8 0), .lit (.int .u8 0)], .agg [.lit (.int .u8 0), .lit (.int .u8 0)], .agg [.lit (.int .u8 0), .lit (.int .u8 0)], .agg [.lit (.int .u8 0), .lit (.int .u8 0)], .agg [.lit (.int .u8 0), .lit (.int .u8 0)], .agg [.lit (.int .u8 0), .lit (.int .u8 0)]]
def laid_pleacher_read_marks {H : Type} : DataW H := .agg [.lit (.string [58, 58]), .lit (.string [47, 47]), .lit (.string [46, 46]), .lit (.string [58, 61]), .lit (.string [33, 61]), .lit (.string [60, 61]), .lit (.string [62, 61]), .lit (.string [60, 60]), .lit (.string [62, 62]), .lit (.string [47]), .lit (.string [40]), .lit (.string [41]), .lit (.string [91]), .lit (.string [93]), .lit (.string [123]), .lit (.string [125]), .lit (.string [44]), .lit (.string [46]), .lit (.string [64]), .lit (.string [42]), .lit (.string [61]), .lit (.string [60]), .lit (.string [62]), .lit (.string [43]), .lit (.string [45]), .lit (.string [124])]
def laid_pleacher_read_axes {H : Type} : DataW H := .agg [.lit (.string []), .lit (.string [99, 104, 105, 108, 100]), .lit (.string [100, 101, 115, 99, 101, 110, 100, 97, 110, 116]), .lit (.string [100, 101, 115, 99, 101, 110, 100, 97, 110, 116, 45, 111, 114, 45, 115, 101, 108, 102]), .lit (.string [115, 101, 108, 102]), .lit (.string [112, 97, 114, 101, 110, 116]), .lit (.string [97, 110, 99, 101, 115, 116, 111, 114]), .lit (.string [97, 110, 99, 101, 115, 116, 111, 114, 45, 111, 114, 45, 115, 101, 108, 102]), .lit (.string [102, 111, 108, 108, 111, 119, 105, 110, 103]), .lit (.string [112, 114, 101, 99, 101, 100, 105, 110, 103]), .lit (.string [102, 111, 108, 108, 111, 119, 105, 110, 103, 45, 115, 105, 98, 108, 105, 110, 103]), .lit (.string [112, 114, 101, 99, 101, 100, 105, 110, 103, 45, 115, 105, 98, 108, 105, 110, 103]), .lit (.string [97, 116, 116, 114, 105, 98, 117, 116, 101])]
def laid_pleacher_read_binaries {H : Type} : DataW H := .agg [.slice [.lit (.string [111, 114])] [], .slice [.lit (.string [97, 110, 100])] [], .slice [.lit (.string [61]), .lit (.string [33, 61]), .lit (.string [60]), .lit (.string [60, 61]), .lit (.string [62]), .lit (.string [62, 61]), .lit (.string [105, 115]), .lit (.string [60, 60]), .lit (.string [62, 62])] [], .slice [.lit (.string [116, 111])] [], .slice [.lit (.string [43]), .lit (.string [45])] [], .slice [.lit (.string [42]), .lit (.string [100, 105, 118]), .lit (.string [109, 111, 100])] [], .slice [.lit (.string [124]), .lit (.string [117, 110, 105, 111, 110])] [], .slice [.lit (.string [105, 110, 116, 101, 114, 115, 101, 99, 116]), .lit (.string [101, 120, 99, 101, 112, 116])] []]
/-- One of Go's own tables, pinned by name: the form's constant. -/
def laid_unicode_utf8_first : DataW Unit := Go.Pinned.utf8First

/-- 'pleacherlaw.ReadParses': WHATEVER THE INPUT: true; the input reads as it did. -/
def readParsesSpec : ChangeSpec := { name := "readParses", fn := fun _ => fun
  | [d] => { results := [.lit (.bool true)], args := [d] }
  | _ => none }
def readParsesRow : OpenClaim := { program := "ytmhabdopcbokoaadoor", sum := "c78d48d124099bff44c7bef03bea14f3e7b938952358d3a84b4e057fcfeb4e6c", func := "pleacher/pleacherlaw.ReadParses", spec := "readParses", inPlace := ["internal/bytealg.IndexByteString", "internal/bytealg.IndexString"], unfollowed := true, recurses := true, named := ["pleacher/read.marks", "internal/bytealg.MaxLen", "unicode/utf8.first", "unicode/utf8.acceptRanges", "pleacher/read.axes", "pleacher/read.binaries"], apart := false, laid := [("unicode/utf8.acceptRanges", laid_unicode_utf8_acceptRanges), ("pleacher/read.marks", laid_pleacher_read_marks), ("pleacher/read.axes", laid_pleacher_read_axes), ("pleacher/read.binaries", laid_pleacher_read_binaries), ("unicode/utf8.first", laid_unicode_utf8_first)] }
def ReadParsesSaid : Prop := readParsesRow.holds Tryd.pinned (OpenSpec.ofChange readParsesSpec)

/-- ITS FALSE NEIGHBOUR: 'it returns false'. Refute it at one input. -/
def readParsesWrong : ChangeSpec := { name := "readParses", fn := fun _ => fun
  | [d] => { results := [.lit (.bool false)], args := [d] }
  | _ => none }
def ReadParsesWrongFalsely : Prop := readParsesRow.holds Tryd.pinned (OpenSpec.ofChange readParsesWrong)

/- THE SECOND FORM. 'bulk': how many values and letters a reading holds, each counted each time it is reached (what is shared counts as often as it is met; a slice's spare places count too). A statement '..UptoSaid' is the law's where the arguments, and the package variables that the reading takes, are together of bulk at most 1048576: NARROWER than '..Said'. Prove '..Said' where nothing that the law and all that it calls make is longer than what came in: it says more and counts as full. Else prove '..UptoSaid'. A law counts once. -/
mutual
def uptoBulk {H : Type} : DataW H → Nat
  | .lit (.string bytes) => bytes.length + 1
  | .lit _ => 1
  | .nil => 1
  | .ptr d => uptoBulk d + 1
  | .slice elems spare => uptoBulkAll elems + uptoBulkAll spare + 1
  | .agg parts => uptoBulkAll parts + 1
  | .iface _ d => uptoBulk d + 1
  | .map entries => uptoBulkEntries entries + 1
  | .held _ => 1
def uptoBulkAll {H : Type} : List (DataW H) → Nat
  | [] => 0
  | d :: r => uptoBulk d + uptoBulkAll r
def uptoBulkEntries {H : Type} : List (Lit × DataW H) → Nat
  | [] => 0
  | x :: r => uptoBulkEntry x + uptoBulkEntries r
def uptoBulkEntry {H : Type} : Lit × DataW H → Nat
  | (.string bytes, d) => bytes.length + uptoBulk d + 1
  | (_, d) => uptoBulk d + 1
 end
def uptoSmall : (H : Type) → List (DataW H) → Bool := fun _ ds => decide (uptoBulkAll ds ≤ 1048576)
def OpenSpec.upto (s : _root_.Go.ChangeSpec) : _root_.Go.OpenSpec := { _root_.Go.OpenSpec.ofChange s with cond := some uptoSmall }

/-- 'pleacherlaw.ReadParses', WHERE WHAT IT READS IS OF BULK AT MOST 1048576: true; the input reads as it did. -/
def readParsesUptoRow : OpenClaim := { program := "ytmhabdopcbokoaadoor", sum := "c78d48d124099bff44c7bef03bea14f3e7b938952358d3a84b4e057fcfeb4e6c", func := "pleacher/pleacherlaw.ReadParses", spec := "readParses", inPlace := ["internal/bytealg.IndexByteString", "internal/bytealg.IndexString"], unfollowed := true, recurses := true, named := ["pleacher/read.marks", "internal/bytealg.MaxLen", "unicode/utf8.first", "unicode/utf8.acceptRanges", "pleacher/read.axes", "pleacher/read.binaries"], apart := false, laid := [("unicode/utf8.acceptRanges", laid_unicode_utf8_acceptRanges), ("pleacher/read.marks", laid_pleacher_read_marks), ("pleacher/read.axes", laid_pleacher_read_axes), ("pleacher/read.binaries", laid_pleacher_read_binaries), ("unicode/utf8.first", laid_unicode_utf8_first)], narrowed := true }
def ReadParsesUptoSaid : Prop := readParsesUptoRow.holds Tryd.pinned (OpenSpec.upto readParsesSpec)

end Rows
end Go.Proofs.YtmhabdopcbokoaaDoor
