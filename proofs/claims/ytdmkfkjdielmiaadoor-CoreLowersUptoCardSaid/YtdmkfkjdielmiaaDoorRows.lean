/-
  NARROWER THAN 'FOR EVERY INPUT', by the rows' own cells (each row's printed sentence says how): CoreLowers: loops, laid · ReadParses: laid · QueryShows: laid.
  DERIVED. THE GIVEN ROWS OF THIS SEAT. 3 by the template 'for every input the law returns true; each argument reads behind the call as it read before'; 0 by the template 'total and deterministic' (their statements: YtdmkfkjdielmiaaDoorTotals.lean).
  GIVEN WITH THE SEED: the statements are not yours to turn. If you find one false, say at which input.
  Laid BY PROGRAM, IN A SANDBOX (cutbox-rows.mjs): the forced cells as the released guide's own fill.sh prints them over the translation 233a90701d621d30… (all of the seat's roots in one cut). By AI agents, Wed Nov 11 2026. No macro, syntax, notation, axiom, sorry.
-/
import Derived.Test.YtdmkfkjdielmiaaDoorChecked
import GoSem.PinnedTables
import GoSem.Claim
import GoSem.ClaimJoined
import GoSem.ClaimMapViews
import Derived.JoinedTies
import Derived.KernelRfl
namespace Go.Proofs.YtdmkfkjdielmiaaDoor
/- THE CELL 'sum', in the pinned program and in every row, IS THE sha256 OF THE DUMP (.gsa) THAT YtdmkfkjdielmiaaDoorProg.lean LOADS. Nothing in Lean hashes anything: it is a label: what it is worth is what the hold of that sum in a sandbox is worth. -/
noncomputable def Tryd.pinned : Pinned := { name := "ytdmkfkjdielmiaadoor", sum := "233a90701d621d305da7f4f682c08632f3fffdd4a147fa4f4d338d2f6c4922fb", checked := Tryd.checked }
namespace Rows
def none {H : Type} : Left H := { results := [], args := [] }

/- WHAT THE LISTED PACKAGE-LEVEL VARIABLES READ AS WHEN THE CALL BEGINS. Each datum BY PROGRAM (the guide's laid-datum.mjs) off the statement by which the dump's own 'gosem.cut.vars' lays the variable. In a bare row this is a premise. The card (YtdmkfkjdielmiaaDoorCards.lean) ties it to the program's text. -/
def laid_unicode_utf8_acceptRanges {H : Type} : DataW H := .agg [.agg [.lit (.int .u8 128), .lit (.int .u8 191)], .agg [.lit (.int .u8 160), .lit (.int .u8 191)], .agg [.lit (.int .u8 128), .lit (.int .u8 159)], .agg [.lit (.int .u8 144), .lit (.int .u8 191)], .agg [.lit (.int .u8 128), .lit (.int .u8 143)], .agg [.lit (.int .u8 0), .lit (.int .u8 0)], .agg [.lit (.int .u8 0), .lit (.int .u8 0)], .agg [.lit (.int .u8 0), .lit (.int .u8 0)], .agg [.lit (.int .u8 0), .lit (.int .u8 0)], .agg [.lit (.int .u8 0), .lit (.int .u8 0)], .agg [.lit (.int .u8 0), .lit (.int .u8 0)], .agg [.lit (.int .u8 0), .lit (.int .u8 0)], .agg [.lit (.int .u8 0), .lit (.int .u8 0)], .agg [.lit (.int .u8 0), .lit (.int .u8 0)], .agg [.lit (.int .u8 0), .lit (.int .u8 0)], .agg [.lit (.int .u8 0), .lit (.int .u8 0)]]
def laid_pleacher_core_arity {H : Type} : DataW H := .map [(.string [33, 61], .lit (.int .i64 2)), (.string [42], .lit (.int .i64 2)), (.string [43], .lit (.int .i64 2)), (.string [45], .lit (.int .i64 2)), (.string [60], .lit (.int .i64 2)), (.string [60, 60], .lit (.int .i64 2)), (.string [60, 61], .lit (.int .i64 2)), (.string [61], .lit (.int .i64 2)), (.string [62], .lit (.int .i64 2)), (.string [62, 61], .lit (.int .i64 2)), (.string [62, 62], .lit (.int .i64 2)), (.string [97, 110, 100], .lit (.int .i64 2)), (.string [98, 111, 111, 108, 101, 97, 110], .lit (.int .i64 1)), (.string [99, 111, 110, 99, 97, 116], .lit (.int .i64 2)), (.string [99, 111, 110, 116, 97, 105, 110, 115], .lit (.int .i64 2)), (.string [99, 111, 117, 110, 116], .lit (.int .i64 1)), (.string [100, 97, 116, 97], .lit (.int .i64 1)), (.string [100, 100, 111], .lit (.int .i64 1)), (.string [100, 105, 115, 116, 105, 110, 99, 116], .lit (.int .i64 1)), (.string [100, 105, 118], .lit (.int .i64 2)), (.string [101, 109, 112, 116, 121], .lit (.int .i64 1)), (.string [101, 120, 99, 101, 112, 116], .lit (.int .i64 2)), (.string [101, 120, 105, 115, 116, 115], .lit (.int .i64 1)), (.string [104, 111, 108, 100, 115], .lit (.int .i64 2)), (.string [105, 110, 116, 101, 103, 101, 114], .lit (.int .i64 1)), (.string [105, 110, 116, 101, 114, 115, 101, 99, 116], .lit (.int .i64 2)), (.string [105, 115], .lit (.int .i64 2)), (.string [108, 101, 110, 103, 116, 104], .lit (.int .i64 1)), (.string [109, 97, 120], .lit (.int .i64 1)), (.string [109, 105, 110], .lit (.int .i64 1)), (.string [109, 111, 100], .lit (.int .i64 2)), (.string [110, 97, 109, 101], .lit (.int .i64 1)), (.string [110, 101, 103], .lit (.int .i64 1)), (.string [110, 111, 116], .lit (.int .i64 1)), (.string [111, 114], .lit (.int .i64 2)), (.string [114, 101, 118, 101, 114, 115, 101], .lit (.int .i64 1)), (.string [115, 116, 97, 114, 116, 115], .lit (.int .i64 2)), (.string [115, 116, 114, 105, 110, 103], .lit (.int .i64 1)), (.string [115, 117, 98, 115, 116, 114, 105, 110, 103], .lit (.int .i64 3)), (.string [115, 117, 109], .lit (.int .i64 1)), (.string [116, 111], .lit (.int .i64 2)), (.string [117, 110, 105, 111, 110], .lit (.int .i64 2))]
def laid_pleacher_core_called {H : Type} : DataW H := .map [(.string [98, 111, 111, 108, 101, 97, 110], .lit (.string [98, 111, 111, 108, 101, 97, 110])), (.string [99, 111, 110, 99, 97, 116], .lit (.string [99, 111, 110, 99, 97, 116])), (.string [99, 111, 110, 116, 97, 105, 110, 115], .lit (.string [99, 111, 110, 116, 97, 105, 110, 115])), (.string [99, 111, 117, 110, 116], .lit (.string [99, 111, 117, 110, 116])), (.string [100, 97, 116, 97], .lit (.string [100, 97, 116, 97])), (.string [100, 105, 115, 116, 105, 110, 99, 116, 45, 118, 97, 108, 117, 101, 115], .lit (.string [100, 105, 115, 116, 105, 110, 99, 116])), (.string [101, 109, 112, 116, 121], .lit (.string [101, 109, 112, 116, 121])), (.string [101, 120, 105, 115, 116, 115], .lit (.string [101, 120, 105, 115, 116, 115])), (.string [105, 110, 116, 101, 103, 101, 114], .lit (.string [105, 110, 116, 101, 103, 101, 114])), (.string [109, 97, 120], .lit (.string [109, 97, 120])), (.string [109, 105, 110], .lit (.string [109, 105, 110])), (.string [110, 97, 109, 101], .lit (.string [110, 97, 109, 101])), (.string [110, 111, 116], .lit (.string [110, 111, 116])), (.string [114, 101, 118, 101, 114, 115, 101], .lit (.string [114, 101, 118, 101, 114, 115, 101])), (.string [115, 116, 97, 114, 116, 115, 45, 119, 105, 116, 104], .lit (.string [115, 116, 97, 114, 116, 115])), (.string [115, 116, 114, 105, 110, 103], .lit (.string [115, 116, 114, 105, 110, 103])), (.string [115, 116, 114, 105, 110, 103, 45, 108, 101, 110, 103, 116, 104], .lit (.string [108, 101, 110, 103, 116, 104])), (.string [115, 117, 98, 115, 116, 114, 105, 110, 103], .lit (.string [115, 117, 98, 115, 116, 114, 105, 110, 103])), (.string [115, 117, 109], .lit (.string [115, 117, 109]))]
def laid_pleacher_core_operators {H : Type} : DataW H := .map [(.string [33, 61], .lit (.string [33, 61])), (.string [42], .lit (.string [42])), (.string [43], .lit (.string [43])), (.string [45], .lit (.string [45])), (.string [60], .lit (.string [60])), (.string [60, 60], .lit (.string [60, 60])), (.string [60, 61], .lit (.string [60, 61])), (.string [61], .lit (.string [61])), (.string [62], .lit (.string [62])), (.string [62, 61], .lit (.string [62, 61])), (.string [62, 62], .lit (.string [62, 62])), (.string [97, 110, 100], .lit (.string [97, 110, 100])), (.string [100, 105, 118], .lit (.string [100, 105, 118])), (.string [101, 120, 99, 101, 112, 116], .lit (.string [101, 120, 99, 101, 112, 116])), (.string [105, 110, 116, 101, 114, 115, 101, 99, 116], .lit (.string [105, 110, 116, 101, 114, 115, 101, 99, 116])), (.string [105, 115], .lit (.string [105, 115])), (.string [109, 111, 100], .lit (.string [109, 111, 100])), (.string [111, 114], .lit (.string [111, 114])), (.string [116, 111], .lit (.string [116, 111])), (.string [117, 110, 105, 111, 110], .lit (.string [117, 110, 105, 111, 110])), (.string [124], .lit (.string [117, 110, 105, 111, 110]))]
/-- One of Go's own tables, pinned by name: the form's constant. -/
def laid_unicode_utf8_first : DataW Unit := Go.Pinned.utf8First
def laid_pleacher_read_marks {H : Type} : DataW H := .agg [.lit (.string [58, 58]), .lit (.string [47, 47]), .lit (.string [46, 46]), .lit (.string [58, 61]), .lit (.string [33, 61]), .lit (.string [60, 61]), .lit (.string [62, 61]), .lit (.string [60, 60]), .lit (.string [62, 62]), .lit (.string [47]), .lit (.string [40]), .lit (.string [41]), .lit (.string [91]), .lit (.string [93]), .lit (.string [123]), .lit (.string [125]), .lit (.string [44]), .lit (.string [46]), .lit (.string [64]), .lit (.string [42]), .lit (.string [61]), .lit (.string [60]), .lit (.string [62]), .lit (.string [43]), .lit (.string [45]), .lit (.string [124])]
def laid_pleacher_read_axes {H : Type} : DataW H := .agg [.lit (.string []), .lit (.string [99, 104, 105, 108, 100]), .lit (.string [100, 101, 115, 99, 101, 110, 100, 97, 110, 116]), .lit (.string [100, 101, 115, 99, 101, 110, 100, 97, 110, 116, 45, 111, 114, 45, 115, 101, 108, 102]), .lit (.string [115, 101, 108, 102]), .lit (.string [112, 97, 114, 101, 110, 116]), .lit (.string [97, 110, 99, 101, 115, 116, 111, 114]), .lit (.string [97, 110, 99, 101, 115, 116, 111, 114, 45, 111, 114, 45, 115, 101, 108, 102]), .lit (.string [102, 111, 108, 108, 111, 119, 105, 110, 103]), .lit (.string [112, 114, 101, 99, 101, 100, 105, 110, 103]), .lit (.string [102, 111, 108, 108, 111, 119, 105, 110, 103, 45, 115, 105, 98, 108, 105, 110, 103]), .lit (.string [112, 114, 101, 99, 101, 100, 105, 110, 103, 45, 115, 105, 98, 108, 105, 110, 103]), .lit (.string [97, 116, 116, 114, 105, 98, 117, 116, 101])]
def laid_pleacher_read_binaries {H : Type} : DataW H := .agg [.slice [.lit (.string [111, 114])] [], .slice [.lit (.string [97, 110, 100])] [], .slice [.lit (.string [61]), .lit (.string [33, 61]), .lit (.string [60]), .lit (.string [60, 61]), .lit (.string [62]), .lit (.string [62, 61]), .lit (.string [105, 115]), .lit (.string [60, 60]), .lit (.string [62, 62])] [], .slice [.lit (.string [116, 111])] [], .slice [.lit (.string [43]), .lit (.string [45])] [], .slice [.lit (.string [42]), .lit (.string [100, 105, 118]), .lit (.string [109, 111, 100])] [], .slice [.lit (.string [124]), .lit (.string [117, 110, 105, 111, 110])] [], .slice [.lit (.string [105, 110, 116, 101, 114, 115, 101, 99, 116]), .lit (.string [101, 120, 99, 101, 112, 116])] []]
def laid_math_bits_deBruijn32tab {H : Type} : DataW H := .agg [.lit (.int .u8 0), .lit (.int .u8 1), .lit (.int .u8 28), .lit (.int .u8 2), .lit (.int .u8 29), .lit (.int .u8 14), .lit (.int .u8 24), .lit (.int .u8 3), .lit (.int .u8 30), .lit (.int .u8 22), .lit (.int .u8 20), .lit (.int .u8 15), .lit (.int .u8 25), .lit (.int .u8 17), .lit (.int .u8 4), .lit (.int .u8 8), .lit (.int .u8 31), .lit (.int .u8 27), .lit (.int .u8 13), .lit (.int .u8 23), .lit (.int .u8 21), .lit (.int .u8 19), .lit (.int .u8 16), .lit (.int .u8 7), .lit (.int .u8 26), .lit (.int .u8 12), .lit (.int .u8 18), .lit (.int .u8 6), .lit (.int .u8 11), .lit (.int .u8 5), .lit (.int .u8 10), .lit (.int .u8 9)]
def laid_math_bits_deBruijn64tab {H : Type} : DataW H := .agg [.lit (.int .u8 0), .lit (.int .u8 1), .lit (.int .u8 56), .lit (.int .u8 2), .lit (.int .u8 57), .lit (.int .u8 49), .lit (.int .u8 28), .lit (.int .u8 3), .lit (.int .u8 61), .lit (.int .u8 58), .lit (.int .u8 42), .lit (.int .u8 50), .lit (.int .u8 38), .lit (.int .u8 29), .lit (.int .u8 17), .lit (.int .u8 4), .lit (.int .u8 62), .lit (.int .u8 47), .lit (.int .u8 59), .lit (.int .u8 36), .lit (.int .u8 45), .lit (.int .u8 43), .lit (.int .u8 51), .lit (.int .u8 22), .lit (.int .u8 53), .lit (.int .u8 39), .lit (.int .u8 33), .lit (.int .u8 30), .lit (.int .u8 24), .lit (.int .u8 18), .lit (.int .u8 12), .lit (.int .u8 5), .lit (.int .u8 63), .lit (.int .u8 55), .lit (.int .u8 48), .lit (.int .u8 27), .lit (.int .u8 60), .lit (.int .u8 41), .lit (.int .u8 37), .lit (.int .u8 16), .lit (.int .u8 46), .lit (.int .u8 35), .lit (.int .u8 44), .lit (.int .u8 21), .lit (.int .u8 52), .lit (.int .u8 32), .lit (.int .u8 23), .lit (.int .u8 11), .lit (.int .u8 54), .lit (.int .u8 26), .lit (.int .u8 40), .lit (.int .u8 15), .lit (.int .u8 34), .lit (.int .u8 20), .lit (.int .u8 31), .lit (.int .u8 10), .lit (.int .u8 25), .lit (.int .u8 14), .lit (.int .u8 19), .lit (.int .u8 9), .lit (.int .u8 13), .lit (.int .u8 8), .lit (.int .u8 7), .lit (.int .u8 6)]
def laid_internal_strconv_uint64pow10 {H : Type} : DataW H := .agg [.lit (.int .u64 1), .lit (.int .u64 10), .lit (.int .u64 100), .lit (.int .u64 1000), .lit (.int .u64 10000), .lit (.int .u64 100000), .lit (.int .u64 1000000), .lit (.int .u64 10000000), .lit (.int .u64 100000000), .lit (.int .u64 1000000000), .lit (.int .u64 10000000000), .lit (.int .u64 100000000000), .lit (.int .u64 1000000000000), .lit (.int .u64 10000000000000), .lit (.int .u64 100000000000000), .lit (.int .u64 1000000000000000), .lit (.int .u64 10000000000000000), .lit (.int .u64 100000000000000000), .lit (.int .u64 1000000000000000000), .lit (.int .u64 10000000000000000000)]
def laid_pleacher_xml_escapes {H : Type} : DataW H := .agg [.agg [.lit (.string [38]), .lit (.string [38, 97, 109, 112, 59])], .agg [.lit (.string [60]), .lit (.string [38, 108, 116, 59])], .agg [.lit (.string [62]), .lit (.string [38, 103, 116, 59])], .agg [.lit (.string [34]), .lit (.string [38, 113, 117, 111, 116, 59])]]

/-- 'pleacherlaw.CoreLowers': WHATEVER THE INPUT: true; the input reads as it did. -/
def coreLowersSpec : ChangeSpec := { name := "coreLowers", fn := fun _ => fun
  | [d] => { results := [.lit (.bool true)], args := [d] }
  | _ => none }
def coreLowersRow : OpenClaim := { program := "ytdmkfkjdielmiaadoor", sum := "233a90701d621d305da7f4f682c08632f3fffdd4a147fa4f4d338d2f6c4922fb", func := "pleacher/pleacherlaw.CoreLowers", spec := "coreLowers", recurses := true, named := ["pleacher/core.operators", "unicode/utf8.first", "unicode/utf8.acceptRanges", "pleacher/core.called", "pleacher/core.arity"], loops := true, apart := false, laid := [("unicode/utf8.acceptRanges", laid_unicode_utf8_acceptRanges), ("pleacher/core.arity", laid_pleacher_core_arity), ("pleacher/core.called", laid_pleacher_core_called), ("pleacher/core.operators", laid_pleacher_core_operators), ("unicode/utf8.first", laid_unicode_utf8_first)] }
def CoreLowersSaid : Prop := coreLowersRow.holds Tryd.pinned (OpenSpec.ofChange coreLowersSpec)

/-- ITS FALSE NEIGHBOUR: 'it returns false'. Refute it at one input. -/
def coreLowersWrong : ChangeSpec := { name := "coreLowers", fn := fun _ => fun
  | [d] => { results := [.lit (.bool false)], args := [d] }
  | _ => none }
def CoreLowersWrongFalsely : Prop := coreLowersRow.holds Tryd.pinned (OpenSpec.ofChange coreLowersWrong)

/-- 'pleacherlaw.ReadParses': WHATEVER THE INPUT: true; the input reads as it did. -/
def readParsesSpec : ChangeSpec := { name := "readParses", fn := fun _ => fun
  | [d] => { results := [.lit (.bool true)], args := [d] }
  | _ => none }
def readParsesRow : OpenClaim := { program := "ytdmkfkjdielmiaadoor", sum := "233a90701d621d305da7f4f682c08632f3fffdd4a147fa4f4d338d2f6c4922fb", func := "pleacher/pleacherlaw.ReadParses", spec := "readParses", inPlace := ["internal/bytealg.IndexByteString", "internal/bytealg.IndexString"], unfollowed := true, recurses := true, named := ["pleacher/read.marks", "internal/bytealg.MaxLen", "unicode/utf8.first", "unicode/utf8.acceptRanges", "pleacher/read.axes", "pleacher/read.binaries"], apart := false, laid := [("unicode/utf8.acceptRanges", laid_unicode_utf8_acceptRanges), ("pleacher/read.marks", laid_pleacher_read_marks), ("pleacher/read.axes", laid_pleacher_read_axes), ("pleacher/read.binaries", laid_pleacher_read_binaries), ("unicode/utf8.first", laid_unicode_utf8_first)] }
def ReadParsesSaid : Prop := readParsesRow.holds Tryd.pinned (OpenSpec.ofChange readParsesSpec)

/-- ITS FALSE NEIGHBOUR: 'it returns false'. Refute it at one input. -/
def readParsesWrong : ChangeSpec := { name := "readParses", fn := fun _ => fun
  | [d] => { results := [.lit (.bool false)], args := [d] }
  | _ => none }
def ReadParsesWrongFalsely : Prop := readParsesRow.holds Tryd.pinned (OpenSpec.ofChange readParsesWrong)

/-- 'pleacherlaw.QueryShows': WHATEVER THE INPUT: true; the input reads as it did. -/
def queryShowsSpec : ChangeSpec := { name := "queryShows", fn := fun _ => fun
  | [d1, d2] => { results := [.lit (.bool true)], args := [d1, d2] }
  | _ => none }
def queryShowsRow : OpenClaim := { program := "ytdmkfkjdielmiaadoor", sum := "233a90701d621d305da7f4f682c08632f3fffdd4a147fa4f4d338d2f6c4922fb", func := "pleacher/pleacherlaw.QueryShows", spec := "queryShows", inPlace := ["internal/abi.NoEscape", "internal/bytealg.CountString", "internal/bytealg.IndexByteString", "internal/bytealg.IndexString", "internal/bytealg.MakeNoZero"], recurses := true, named := ["unicode/utf8.first", "unicode/utf8.acceptRanges", "internal/strconv.uint64pow10", "math/bits.deBruijn32tab", "math/bits.deBruijn64tab", "pleacher/xml.escapes", "internal/bytealg.MaxLen"], apart := false, laid := [("math/bits.deBruijn32tab", laid_math_bits_deBruijn32tab), ("math/bits.deBruijn64tab", laid_math_bits_deBruijn64tab), ("internal/strconv.uint64pow10", laid_internal_strconv_uint64pow10), ("unicode/utf8.acceptRanges", laid_unicode_utf8_acceptRanges), ("pleacher/xml.escapes", laid_pleacher_xml_escapes), ("unicode/utf8.first", laid_unicode_utf8_first)] }
def QueryShowsSaid : Prop := queryShowsRow.holds Tryd.pinned (OpenSpec.ofChange queryShowsSpec)

/-- ITS FALSE NEIGHBOUR: 'it returns false'. Refute it at one input. -/
def queryShowsWrong : ChangeSpec := { name := "queryShows", fn := fun _ => fun
  | [d1, d2] => { results := [.lit (.bool false)], args := [d1, d2] }
  | _ => none }
def QueryShowsWrongFalsely : Prop := queryShowsRow.holds Tryd.pinned (OpenSpec.ofChange queryShowsWrong)

/- THE SECOND FORM. 'bulk': how many values and letters a reading holds, each counted each time it is reached (what is shared counts as often as it is met; a slice's spare places count too). A statement '..UptoSaid' is the law's where the arguments, and the package variables that the reading takes, are together of bulk at most 1048576: NARROWER than '..Said'. Prove '..Said' where nothing that the law and all that it calls make is longer than what came in: it says more and counts as full. Else prove '..UptoSaid'. A law counts once. -/
mutual
def uptoBulk {H : Type} : DataW H → Nat
  | .lit (.string bytes) => bytes.length + 1
  | .lit _ => 1
  | .nil => 1
  | .ptr d => uptoBulk d + 1
  | .slice elems spare => uptoBulkAll elems + uptoBulkAll spare + 1
  | .agg parts => uptoBulkAll parts + 1
  | .iface _ d => uptoBulk d + 1
  | .map entries => uptoBulkEntries entries + 1
  | .held _ => 1
def uptoBulkAll {H : Type} : List (DataW H) → Nat
  | [] => 0
  | d :: r => uptoBulk d + uptoBulkAll r
def uptoBulkEntries {H : Type} : List (Lit × DataW H) → Nat
  | [] => 0
  | x :: r => uptoBulkEntry x + uptoBulkEntries r
def uptoBulkEntry {H : Type} : Lit × DataW H → Nat
  | (.string bytes, d) => bytes.length + uptoBulk d + 1
  | (_, d) => uptoBulk d + 1
 end
def uptoSmall : (H : Type) → List (DataW H) → Bool := fun _ ds => decide (uptoBulkAll ds ≤ 1048576)
def OpenSpec.upto (s : _root_.Go.ChangeSpec) : _root_.Go.OpenSpec := { _root_.Go.OpenSpec.ofChange s with cond := some uptoSmall }

/-- 'pleacherlaw.CoreLowers', WHERE WHAT IT READS IS OF BULK AT MOST 1048576: true; the input reads as it did. -/
def coreLowersUptoRow : OpenClaim := { program := "ytdmkfkjdielmiaadoor", sum := "233a90701d621d305da7f4f682c08632f3fffdd4a147fa4f4d338d2f6c4922fb", func := "pleacher/pleacherlaw.CoreLowers", spec := "coreLowers", recurses := true, named := ["pleacher/core.operators", "unicode/utf8.first", "unicode/utf8.acceptRanges", "pleacher/core.called", "pleacher/core.arity"], loops := true, apart := false, laid := [("unicode/utf8.acceptRanges", laid_unicode_utf8_acceptRanges), ("pleacher/core.arity", laid_pleacher_core_arity), ("pleacher/core.called", laid_pleacher_core_called), ("pleacher/core.operators", laid_pleacher_core_operators), ("unicode/utf8.first", laid_unicode_utf8_first)], narrowed := true }
def CoreLowersUptoSaid : Prop := coreLowersUptoRow.holds Tryd.pinned (OpenSpec.upto coreLowersSpec)

/-- 'pleacherlaw.ReadParses', WHERE WHAT IT READS IS OF BULK AT MOST 1048576: true; the input reads as it did. -/
def readParsesUptoRow : OpenClaim := { program := "ytdmkfkjdielmiaadoor", sum := "233a90701d621d305da7f4f682c08632f3fffdd4a147fa4f4d338d2f6c4922fb", func := "pleacher/pleacherlaw.ReadParses", spec := "readParses", inPlace := ["internal/bytealg.IndexByteString", "internal/bytealg.IndexString"], unfollowed := true, recurses := true, named := ["pleacher/read.marks", "internal/bytealg.MaxLen", "unicode/utf8.first", "unicode/utf8.acceptRanges", "pleacher/read.axes", "pleacher/read.binaries"], apart := false, laid := [("unicode/utf8.acceptRanges", laid_unicode_utf8_acceptRanges), ("pleacher/read.marks", laid_pleacher_read_marks), ("pleacher/read.axes", laid_pleacher_read_axes), ("pleacher/read.binaries", laid_pleacher_read_binaries), ("unicode/utf8.first", laid_unicode_utf8_first)], narrowed := true }
def ReadParsesUptoSaid : Prop := readParsesUptoRow.holds Tryd.pinned (OpenSpec.upto readParsesSpec)

/-- 'pleacherlaw.QueryShows', WHERE WHAT IT READS IS OF BULK AT MOST 1048576: true; the input reads as it did. -/
def queryShowsUptoRow : OpenClaim := { program := "ytdmkfkjdielmiaadoor", sum := "233a90701d621d305da7f4f682c08632f3fffdd4a147fa4f4d338d2f6c4922fb", func := "pleacher/pleacherlaw.QueryShows", spec := "queryShows", inPlace := ["internal/abi.NoEscape", "internal/bytealg.CountString", "internal/bytealg.IndexByteString", "internal/bytealg.IndexString", "internal/bytealg.MakeNoZero"], recurses := true, named := ["unicode/utf8.first", "unicode/utf8.acceptRanges", "internal/strconv.uint64pow10", "math/bits.deBruijn32tab", "math/bits.deBruijn64tab", "pleacher/xml.escapes", "internal/bytealg.MaxLen"], apart := false, laid := [("math/bits.deBruijn32tab", laid_math_bits_deBruijn32tab), ("math/bits.deBruijn64tab", laid_math_bits_deBruijn64tab), ("internal/strconv.uint64pow10", laid_internal_strconv_uint64pow10), ("unicode/utf8.acceptRanges", laid_unicode_utf8_acceptRanges), ("pleacher/xml.escapes", laid_pleacher_xml_escapes), ("unicode/utf8.first", laid_unicode_utf8_first)], narrowed := true }
def QueryShowsUptoSaid : Prop := queryShowsUptoRow.holds Tryd.pinned (OpenSpec.upto queryShowsSpec)

end Rows
end Go.Proofs.YtdmkfkjdielmiaaDoor
