/-
  NARROWER THAN 'FOR EVERY INPUT', by the rows' own cells (each row's printed sentence says how): ReadCuts: laid · RelGroups: laid · CoreChecks: loops, laid · XmlEscapes: laid · XmlChecks: laid · StoreShreds: laid · RelSorts: laid · RelRanks: laid · XmlShows: laid · XmlParses: laid · CoreLowers: loops, laid · ReadParses: laid.
  DERIVED. THE GIVEN ROWS OF THIS SEAT. 12 by the template 'for every input the law returns true; each argument reads behind the call as it read before'; 0 by the template 'total and deterministic' (their statements: YtalalhngpcmoeaaDoorTotals.lean).
  GIVEN WITH THE SEED: the statements are not yours to turn. If you find one false, say at which input.
  Laid BY PROGRAM, IN A SANDBOX (cutbox-rows.mjs): the forced cells as the released guide's own fill.sh prints them over the translation 0883b86bcc8876fa… (all of the seat's roots in one cut). By AI agents, Wed Nov 11 2026. No macro, syntax, notation, axiom, sorry.
-/
import Derived.Test.YtalalhngpcmoeaaDoorChecked
import GoSem.PinnedTables
import GoSem.Claim
import GoSem.ClaimJoined
import GoSem.ClaimMapViews
import Derived.JoinedTies
import Derived.KernelRfl
namespace Go.Proofs.YtalalhngpcmoeaaDoor
/- THE CELL 'sum', in the pinned program and in every row, IS THE sha256 OF THE DUMP (.gsa) THAT YtalalhngpcmoeaaDoorProg.lean LOADS. Nothing in Lean hashes anything: it is a label: what it is worth is what the hold of that sum in a sandbox is worth. -/
noncomputable def Tryd.pinned : Pinned := { name := "ytalalhngpcmoeaadoor", sum := "0883b86bcc8876fa0dc6b7cc96397ed5dbbf85965c2477648865e946f626221e", checked := Tryd.checked }
namespace Rows
def none {H : Type} : Left H := { results := [], args := [] }

/- WHAT THE LISTED PACKAGE-LEVEL VARIABLES READ AS WHEN THE CALL BEGINS. Each datum BY PROGRAM (the guide's laid-datum.mjs) off the statement by which the dump's own 'gosem.cut.vars' lays the variable. In a bare row this is a premise. The card (YtalalhngpcmoeaaDoorCards.lean) ties it to the program's text. -/
def laid_unicode_utf8_acceptRanges {H : Type} : DataW H := .agg [.agg [.lit (.int .u8 128), .lit (.int .u8 191)], .agg [.lit (.int .u8 160), .lit (.int .u8 191)], .agg [.lit (.int .u8 128), .lit (.int .u8 159)], .agg [.lit (.int .u8 144), .lit (.int .u8 191)], .agg [.lit (.int .u8 128), .lit (.int .u8 143)], .agg [.lit (.int .u8 0), .lit (.int .u8 0)], .agg [.lit (.int .u8 0), .lit (.int .u8 0)], .agg [.lit (.int .u8 0), .lit (.int .u8 0)], .agg [.lit (.int .u8 0), .lit (.int .u8 0)], .agg [.lit (.int .u8 0), .lit (.int .u8 0)], .agg [.lit (.int .u8 0), .lit (.int .u8 0)], .agg [.lit (.int .u8 0), .lit (.int .u8 0)], .agg [.lit (.int .u8 0), .lit (.int .u8 0)], .agg [.lit (.int .u8 0), .lit (.int .u8 0)], .agg [.lit (.int .u8 0), .lit (.int .u8 0)], .agg [.lit (.int .u8 0), .lit (.int .u8 0)]]
def laid_pleacher_read_marks {H : Type} : DataW H := .agg [.lit (.string [58, 58]), .lit (.string [47, 47]), .lit (.string [46, 46]), .lit (.string [58, 61]), .lit (.string [33, 61]), .lit (.string [60, 61]), .lit (.string [62, 61]), .lit (.string [60, 60]), .lit (.string [62, 62]), .lit (.string [47]), .lit (.string [40]), .lit (.string [41]), .lit (.string [91]), .lit (.string [93]), .lit (.string [123]), .lit (.string [125]), .lit (.string [44]), .lit (.string [46]), .lit (.string [64]), .lit (.string [42]), .lit (.string [61]), .lit (.string [60]), .lit (.string [62]), .lit (.string [43]), .lit (.string [45]), .lit (.string [124])]
/-- One of Go's own tables, pinned by name: the form's constant. -/
def laid_unicode_utf8_first : DataW Unit := Go.Pinned.utf8First
def laid_pleacher_core_arity {H : Type} : DataW H := .map [(.string [33, 61], .lit (.int .i64 2)), (.string [42], .lit (.int .i64 2)), (.string [43], .lit (.int .i64 2)), (.string [45], .lit (.int .i64 2)), (.string [60], .lit (.int .i64 2)), (.string [60, 60], .lit (.int .i64 2)), (.string [60, 61], .lit (.int .i64 2)), (.string [61], .lit (.int .i64 2)), (.string [62], .lit (.int .i64 2)), (.string [62, 61], .lit (.int .i64 2)), (.string [62, 62], .lit (.int .i64 2)), (.string [97, 110, 100], .lit (.int .i64 2)), (.string [98, 111, 111, 108, 101, 97, 110], .lit (.int .i64 1)), (.string [99, 111, 110, 99, 97, 116], .lit (.int .i64 2)), (.string [99, 111, 110, 116, 97, 105, 110, 115], .lit (.int .i64 2)), (.string [99, 111, 117, 110, 116], .lit (.int .i64 1)), (.string [100, 97, 116, 97], .lit (.int .i64 1)), (.string [100, 100, 111], .lit (.int .i64 1)), (.string [100, 105, 115, 116, 105, 110, 99, 116], .lit (.int .i64 1)), (.string [100, 105, 118], .lit (.int .i64 2)), (.string [101, 109, 112, 116, 121], .lit (.int .i64 1)), (.string [101, 120, 99, 101, 112, 116], .lit (.int .i64 2)), (.string [101, 120, 105, 115, 116, 115], .lit (.int .i64 1)), (.string [104, 111, 108, 100, 115], .lit (.int .i64 2)), (.string [105, 110, 116, 101, 103, 101, 114], .lit (.int .i64 1)), (.string [105, 110, 116, 101, 114, 115, 101, 99, 116], .lit (.int .i64 2)), (.string [105, 115], .lit (.int .i64 2)), (.string [108, 101, 110, 103, 116, 104], .lit (.int .i64 1)), (.string [109, 97, 120], .lit (.int .i64 1)), (.string [109, 105, 110], .lit (.int .i64 1)), (.string [109, 111, 100], .lit (.int .i64 2)), (.string [110, 97, 109, 101], .lit (.int .i64 1)), (.string [110, 101, 103], .lit (.int .i64 1)), (.string [110, 111, 116], .lit (.int .i64 1)), (.string [111, 114], .lit (.int .i64 2)), (.string [114, 101, 118, 101, 114, 115, 101], .lit (.int .i64 1)), (.string [115, 116, 97, 114, 116, 115], .lit (.int .i64 2)), (.string [115, 116, 114, 105, 110, 103], .lit (.int .i64 1)), (.string [115, 117, 98, 115, 116, 114, 105, 110, 103], .lit (.int .i64 3)), (.string [115, 117, 109], .lit (.int .i64 1)), (.string [116, 111], .lit (.int .i64 2)), (.string [117, 110, 105, 111, 110], .lit (.int .i64 2))]
def laid_pleacher_xml_escapes {H : Type} : DataW H := .agg [.agg [.lit (.string [38]), .lit (.string [38, 97, 109, 112, 59])], .agg [.lit (.string [60]), .lit (.string [38, 108, 116, 59])], .agg [.lit (.string [62]), .lit (.string [38, 103, 116, 59])], .agg [.lit (.string [34]), .lit (.string [38, 113, 117, 111, 116, 59])]]
def laid_pleacher_core_called {H : Type} : DataW H := .map [(.string [98, 111, 111, 108, 101, 97, 110], .lit (.string [98, 111, 111, 108, 101, 97, 110])), (.string [99, 111, 110, 99, 97, 116], .lit (.string [99, 111, 110, 99, 97, 116])), (.string [99, 111, 110, 116, 97, 105, 110, 115], .lit (.string [99, 111, 110, 116, 97, 105, 110, 115])), (.string [99, 111, 117, 110, 116], .lit (.string [99, 111, 117, 110, 116])), (.string [100, 97, 116, 97], .lit (.string [100, 97, 116, 97])), (.string [100, 105, 115, 116, 105, 110, 99, 116, 45, 118, 97, 108, 117, 101, 115], .lit (.string [100, 105, 115, 116, 105, 110, 99, 116])), (.string [101, 109, 112, 116, 121], .lit (.string [101, 109, 112, 116, 121])), (.string [101, 120, 105, 115, 116, 115], .lit (.string [101, 120, 105, 115, 116, 115])), (.string [105, 110, 116, 101, 103, 101, 114], .lit (.string [105, 110, 116, 101, 103, 101, 114])), (.string [109, 97, 120], .lit (.string [109, 97, 120])), (.string [109, 105, 110], .lit (.string [109, 105, 110])), (.string [110, 97, 109, 101], .lit (.string [110, 97, 109, 101])), (.string [110, 111, 116], .lit (.string [110, 111, 116])), (.string [114, 101, 118, 101, 114, 115, 101], .lit (.string [114, 101, 118, 101, 114, 115, 101])), (.string [115, 116, 97, 114, 116, 115, 45, 119, 105, 116, 104], .lit (.string [115, 116, 97, 114, 116, 115])), (.string [115, 116, 114, 105, 110, 103], .lit (.string [115, 116, 114, 105, 110, 103])), (.string [115, 116, 114, 105, 110, 103, 45, 108, 101, 110, 103, 116, 104], .lit (.string [108, 101, 110, 103, 116, 104])), (.string [115, 117, 98, 115, 116, 114, 105, 110, 103], .lit (.string [115, 117, 98, 115, 116, 114, 105, 110, 103])), (.string [115, 117, 109], .lit (.string [115, 117, 109]))]
def laid_pleacher_core_operators {H : Type} : DataW H := .map [(.string [33, 61], .lit (.string [33, 61])), (.string [42], .lit (.string [42])), (.string [43], .lit (.string [43])), (.string [45], .lit (.string [45])), (.string [60], .lit (.string [60])), (.string [60, 60], .lit (.string [60, 60])), (.string [60, 61], .lit (.string [60, 61])), (.string [61], .lit (.string [61])), (.string [62], .lit (.string [62])), (.string [62, 61], .lit (.string [62, 61])), (.string [62, 62], .lit (.string [62, 62])), (.string [97, 110, 100], .lit (.string [97, 110, 100])), (.string [100, 105, 118], .lit (.string [100, 105, 118])), (.string [101, 120, 99, 101, 112, 116], .lit (.string [101, 120, 99, 101, 112, 116])), (.string [105, 110, 116, 101, 114, 115, 101, 99, 116], .lit (.string [105, 110, 116, 101, 114, 115, 101, 99, 116])), (.string [105, 115], .lit (.string [105, 115])), (.string [109, 111, 100], .lit (.string [109, 111, 100])), (.string [111, 114], .lit (.string [111, 114])), (.string [116, 111], .lit (.string [116, 111])), (.string [117, 110, 105, 111, 110], .lit (.string [117, 110, 105, 111, 110])), (.string [124], .lit (.string [117, 110, 105, 111, 110]))]
def laid_pleacher_read_axes {H : Type} : DataW H := .agg [.lit (.string []), .lit (.string [99, 104, 105, 108, 100]), .lit (.string [100, 101, 115, 99, 101, 110, 100, 97, 110, 116]), .lit (.string [100, 101, 115, 99, 101, 110, 100, 97, 110, 116, 45, 111, 114, 45, 115, 101, 108, 102]), .lit (.string [115, 101, 108, 102]), .lit (.string [112, 97, 114, 101, 110, 116]), .lit (.string [97, 110, 99, 101, 115, 116, 111, 114]), .lit (.string [97, 110, 99, 101, 115, 116, 111, 114, 45, 111, 114, 45, 115, 101, 108, 102]), .lit (.string [102, 111, 108, 108, 111, 119, 105, 110, 103]), .lit (.string [112, 114, 101, 99, 101, 100, 105, 110, 103]), .lit (.string [102, 111, 108, 108, 111, 119, 105, 110, 103, 45, 115, 105, 98, 108, 105, 110, 103]), .lit (.string [112, 114, 101, 99, 101, 100, 105, 110, 103, 45, 115, 105, 98, 108, 105, 110, 103]), .lit (.string [97, 116, 116, 114, 105, 98, 117, 116, 101])]
def laid_pleacher_read_binaries {H : Type} : DataW H := .agg [.slice [.lit (.string [111, 114])] [], .slice [.lit (.string [97, 110, 100])] [], .slice [.lit (.string [61]), .lit (.string [33, 61]), .lit (.string [60]), .lit (.string [60, 61]), .lit (.string [62]), .lit (.string [62, 61]), .lit (.string [105, 115]), .lit (.string [60, 60]), .lit (.string [62, 62])] [], .slice [.lit (.string [116, 111])] [], .slice [.lit (.string [43]), .lit (.string [45])] [], .slice [.lit (.string [42]), .lit (.string [100, 105, 118]), .lit (.string [109, 111, 100])] [], .slice [.lit (.string [124]), .lit (.string [117, 110, 105, 111, 110])] [], .slice [.lit (.string [105, 110, 116, 101, 114, 115, 101, 99, 116]), .lit (.string [101, 120, 99, 101, 112, 116])] []]

/-- 'pleacherlaw.ReadCuts': WHATEVER THE INPUT: true; the input reads as it did. -/
def readCutsSpec : ChangeSpec := { name := "readCuts", fn := fun _ => fun
  | [d] => { results := [.lit (.bool true)], args := [d] }
  | _ => none }
def readCutsRow : OpenClaim := { program := "ytalalhngpcmoeaadoor", sum := "0883b86bcc8876fa0dc6b7cc96397ed5dbbf85965c2477648865e946f626221e", func := "pleacher/pleacherlaw.ReadCuts", spec := "readCuts", inPlace := ["internal/bytealg.IndexByteString"], named := ["pleacher/read.marks", "unicode/utf8.first", "unicode/utf8.acceptRanges"], plainKeys := false, apart := false, laid := [("unicode/utf8.acceptRanges", laid_unicode_utf8_acceptRanges), ("pleacher/read.marks", laid_pleacher_read_marks), ("unicode/utf8.first", laid_unicode_utf8_first)] }
def ReadCutsSaid : Prop := readCutsRow.holds Tryd.pinned (OpenSpec.ofChange readCutsSpec)

/-- ITS FALSE NEIGHBOUR: 'it returns false'. Refute it at one input. -/
def readCutsWrong : ChangeSpec := { name := "readCuts", fn := fun _ => fun
  | [d] => { results := [.lit (.bool false)], args := [d] }
  | _ => none }
def ReadCutsWrongFalsely : Prop := readCutsRow.holds Tryd.pinned (OpenSpec.ofChange readCutsWrong)

/-- 'pleacherlaw.RelGroups': WHATEVER THE INPUT: true; the input reads as it did. -/
def relGroupsSpec : ChangeSpec := { name := "relGroups", fn := fun _ => fun
  | [d1, d2, d3, d4, d5] => { results := [.lit (.bool true)], args := [d1, d2, d3, d4, d5] }
  | _ => none }
def relGroupsRow : OpenClaim := { program := "ytalalhngpcmoeaadoor", sum := "0883b86bcc8876fa0dc6b7cc96397ed5dbbf85965c2477648865e946f626221e", func := "pleacher/pleacherlaw.RelGroups", spec := "relGroups", unfollowed := true, recurses := true, named := ["unicode/utf8.first", "unicode/utf8.acceptRanges"], plainKeys := false, apart := false, laid := [("unicode/utf8.acceptRanges", laid_unicode_utf8_acceptRanges), ("unicode/utf8.first", laid_unicode_utf8_first)] }
def RelGroupsSaid : Prop := relGroupsRow.holds Tryd.pinned (OpenSpec.ofChange relGroupsSpec)

/-- ITS FALSE NEIGHBOUR: 'it returns false'. Refute it at one input. -/
def relGroupsWrong : ChangeSpec := { name := "relGroups", fn := fun _ => fun
  | [d1, d2, d3, d4, d5] => { results := [.lit (.bool false)], args := [d1, d2, d3, d4, d5] }
  | _ => none }
def RelGroupsWrongFalsely : Prop := relGroupsRow.holds Tryd.pinned (OpenSpec.ofChange relGroupsWrong)

/-- 'pleacherlaw.CoreChecks': WHATEVER THE INPUT: true; the input reads as it did. -/
def coreChecksSpec : ChangeSpec := { name := "coreChecks", fn := fun _ => fun
  | [d] => { results := [.lit (.bool true)], args := [d] }
  | _ => none }
def coreChecksRow : OpenClaim := { program := "ytalalhngpcmoeaadoor", sum := "0883b86bcc8876fa0dc6b7cc96397ed5dbbf85965c2477648865e946f626221e", func := "pleacher/pleacherlaw.CoreChecks", spec := "coreChecks", recurses := true, named := ["pleacher/core.arity", "unicode/utf8.first", "unicode/utf8.acceptRanges"], loops := true, plainKeys := false, apart := false, laid := [("unicode/utf8.acceptRanges", laid_unicode_utf8_acceptRanges), ("pleacher/core.arity", laid_pleacher_core_arity), ("unicode/utf8.first", laid_unicode_utf8_first)] }
def CoreChecksSaid : Prop := coreChecksRow.holds Tryd.pinned (OpenSpec.ofChange coreChecksSpec)

/-- ITS FALSE NEIGHBOUR: 'it returns false'. Refute it at one input. -/
def coreChecksWrong : ChangeSpec := { name := "coreChecks", fn := fun _ => fun
  | [d] => { results := [.lit (.bool false)], args := [d] }
  | _ => none }
def CoreChecksWrongFalsely : Prop := coreChecksRow.holds Tryd.pinned (OpenSpec.ofChange coreChecksWrong)

/-- 'pleacherlaw.XmlEscapes': WHATEVER THE INPUT: true; the input reads as it did. -/
def xmlEscapesSpec : ChangeSpec := { name := "xmlEscapes", fn := fun _ => fun
  | [d] => { results := [.lit (.bool true)], args := [d] }
  | _ => none }
def xmlEscapesRow : OpenClaim := { program := "ytalalhngpcmoeaadoor", sum := "0883b86bcc8876fa0dc6b7cc96397ed5dbbf85965c2477648865e946f626221e", func := "pleacher/pleacherlaw.XmlEscapes", spec := "xmlEscapes", inPlace := ["internal/bytealg.CountString", "internal/bytealg.IndexByteString", "internal/bytealg.IndexString", "internal/abi.NoEscape", "internal/bytealg.MakeNoZero"], named := ["pleacher/xml.escapes", "internal/bytealg.MaxLen", "unicode/utf8.first", "unicode/utf8.acceptRanges"], plainKeys := false, apart := false, laid := [("unicode/utf8.acceptRanges", laid_unicode_utf8_acceptRanges), ("pleacher/xml.escapes", laid_pleacher_xml_escapes), ("unicode/utf8.first", laid_unicode_utf8_first)] }
def XmlEscapesSaid : Prop := xmlEscapesRow.holds Tryd.pinned (OpenSpec.ofChange xmlEscapesSpec)

/-- ITS FALSE NEIGHBOUR: 'it returns false'. Refute it at one input. -/
def xmlEscapesWrong : ChangeSpec := { name := "xmlEscapes", fn := fun _ => fun
  | [d] => { results := [.lit (.bool false)], args := [d] }
  | _ => none }
def XmlEscapesWrongFalsely : Prop := xmlEscapesRow.holds Tryd.pinned (OpenSpec.ofChange xmlEscapesWrong)

/-- 'pleacherlaw.XmlChecks': WHATEVER THE INPUT: true; the input reads as it did. -/
def xmlChecksSpec : ChangeSpec := { name := "xmlChecks", fn := fun _ => fun
  | [d] => { results := [.lit (.bool true)], args := [d] }
  | _ => none }
def xmlChecksRow : OpenClaim := { program := "ytalalhngpcmoeaadoor", sum := "0883b86bcc8876fa0dc6b7cc96397ed5dbbf85965c2477648865e946f626221e", func := "pleacher/pleacherlaw.XmlChecks", spec := "xmlChecks", inPlace := ["internal/bytealg.IndexByteString", "internal/bytealg.IndexString"], named := ["unicode/utf8.first", "unicode/utf8.acceptRanges", "internal/bytealg.MaxLen"], plainKeys := false, apart := false, laid := [("unicode/utf8.acceptRanges", laid_unicode_utf8_acceptRanges), ("unicode/utf8.first", laid_unicode_utf8_first)] }
def XmlChecksSaid : Prop := xmlChecksRow.holds Tryd.pinned (OpenSpec.ofChange xmlChecksSpec)

/-- ITS FALSE NEIGHBOUR: 'it returns false'. Refute it at one input. -/
def xmlChecksWrong : ChangeSpec := { name := "xmlChecks", fn := fun _ => fun
  | [d] => { results := [.lit (.bool false)], args := [d] }
  | _ => none }
def XmlChecksWrongFalsely : Prop := xmlChecksRow.holds Tryd.pinned (OpenSpec.ofChange xmlChecksWrong)

/-- 'pleacherlaw.StoreShreds': WHATEVER THE INPUT: true; the input reads as it did. -/
def storeShredsSpec : ChangeSpec := { name := "storeShreds", fn := fun _ => fun
  | [d] => { results := [.lit (.bool true)], args := [d] }
  | _ => none }
def storeShredsRow : OpenClaim := { program := "ytalalhngpcmoeaadoor", sum := "0883b86bcc8876fa0dc6b7cc96397ed5dbbf85965c2477648865e946f626221e", func := "pleacher/pleacherlaw.StoreShreds", spec := "storeShreds", inPlace := ["internal/bytealg.IndexByteString", "internal/bytealg.IndexString"], named := ["unicode/utf8.first", "unicode/utf8.acceptRanges", "internal/bytealg.MaxLen"], plainKeys := false, apart := false, laid := [("unicode/utf8.acceptRanges", laid_unicode_utf8_acceptRanges), ("unicode/utf8.first", laid_unicode_utf8_first)] }
def StoreShredsSaid : Prop := storeShredsRow.holds Tryd.pinned (OpenSpec.ofChange storeShredsSpec)

/-- ITS FALSE NEIGHBOUR: 'it returns false'. Refute it at one input. -/
def storeShredsWrong : ChangeSpec := { name := "storeShreds", fn := fun _ => fun
  | [d] => { results := [.lit (.bool false)], args := [d] }
  | _ => none }
def StoreShredsWrongFalsely : Prop := storeShredsRow.holds Tryd.pinned (OpenSpec.ofChange storeShredsWrong)

/-- 'pleacherlaw.RelSorts': WHATEVER THE INPUT: true; the input reads as it did. -/
def relSortsSpec : ChangeSpec := { name := "relSorts", fn := fun _ => fun
  | [d1, d2] => { results := [.lit (.bool true)], args := [d1, d2] }
  | _ => none }
def relSortsRow : OpenClaim := { program := "ytalalhngpcmoeaadoor", sum := "0883b86bcc8876fa0dc6b7cc96397ed5dbbf85965c2477648865e946f626221e", func := "pleacher/pleacherlaw.RelSorts", spec := "relSorts", inPlace := ["internal/bytealg.abigen_runtime_cmpstring"], unfollowed := true, recurses := true, named := ["unicode/utf8.first", "unicode/utf8.acceptRanges"], plainKeys := false, apart := false, laid := [("unicode/utf8.acceptRanges", laid_unicode_utf8_acceptRanges), ("unicode/utf8.first", laid_unicode_utf8_first)] }
def RelSortsSaid : Prop := relSortsRow.holds Tryd.pinned (OpenSpec.ofChange relSortsSpec)

/-- ITS FALSE NEIGHBOUR: 'it returns false'. Refute it at one input. -/
def relSortsWrong : ChangeSpec := { name := "relSorts", fn := fun _ => fun
  | [d1, d2] => { results := [.lit (.bool false)], args := [d1, d2] }
  | _ => none }
def RelSortsWrongFalsely : Prop := relSortsRow.holds Tryd.pinned (OpenSpec.ofChange relSortsWrong)

/-- 'pleacherlaw.RelRanks': WHATEVER THE INPUT: true; the input reads as it did. -/
def relRanksSpec : ChangeSpec := { name := "relRanks", fn := fun _ => fun
  | [d1, d2, d3, d4] => { results := [.lit (.bool true)], args := [d1, d2, d3, d4] }
  | _ => none }
def relRanksRow : OpenClaim := { program := "ytalalhngpcmoeaadoor", sum := "0883b86bcc8876fa0dc6b7cc96397ed5dbbf85965c2477648865e946f626221e", func := "pleacher/pleacherlaw.RelRanks", spec := "relRanks", inPlace := ["internal/bytealg.abigen_runtime_cmpstring", "internal/abi.NoEscape"], unfollowed := true, recurses := true, named := ["unicode/utf8.first", "unicode/utf8.acceptRanges"], plainKeys := false, apart := false, laid := [("unicode/utf8.acceptRanges", laid_unicode_utf8_acceptRanges), ("unicode/utf8.first", laid_unicode_utf8_first)] }
def RelRanksSaid : Prop := relRanksRow.holds Tryd.pinned (OpenSpec.ofChange relRanksSpec)

/-- ITS FALSE NEIGHBOUR: 'it returns false'. Refute it at one input. -/
def relRanksWrong : ChangeSpec := { name := "relRanks", fn := fun _ => fun
  | [d1, d2, d3, d4] => { results := [.lit (.bool false)], args := [d1, d2, d3, d4] }
  | _ => none }
def RelRanksWrongFalsely : Prop := relRanksRow.holds Tryd.pinned (OpenSpec.ofChange relRanksWrong)

/-- 'pleacherlaw.XmlShows': WHATEVER THE INPUT: true; the input reads as it did. -/
def xmlShowsSpec : ChangeSpec := { name := "xmlShows", fn := fun _ => fun
  | [d] => { results := [.lit (.bool true)], args := [d] }
  | _ => none }
def xmlShowsRow : OpenClaim := { program := "ytalalhngpcmoeaadoor", sum := "0883b86bcc8876fa0dc6b7cc96397ed5dbbf85965c2477648865e946f626221e", func := "pleacher/pleacherlaw.XmlShows", spec := "xmlShows", inPlace := ["internal/bytealg.IndexByteString", "internal/bytealg.IndexString", "internal/abi.NoEscape", "internal/bytealg.CountString", "internal/bytealg.MakeNoZero"], named := ["unicode/utf8.first", "unicode/utf8.acceptRanges", "internal/bytealg.MaxLen", "pleacher/xml.escapes"], plainKeys := false, apart := false, laid := [("unicode/utf8.acceptRanges", laid_unicode_utf8_acceptRanges), ("pleacher/xml.escapes", laid_pleacher_xml_escapes), ("unicode/utf8.first", laid_unicode_utf8_first)] }
def XmlShowsSaid : Prop := xmlShowsRow.holds Tryd.pinned (OpenSpec.ofChange xmlShowsSpec)

/-- ITS FALSE NEIGHBOUR: 'it returns false'. Refute it at one input. -/
def xmlShowsWrong : ChangeSpec := { name := "xmlShows", fn := fun _ => fun
  | [d] => { results := [.lit (.bool false)], args := [d] }
  | _ => none }
def XmlShowsWrongFalsely : Prop := xmlShowsRow.holds Tryd.pinned (OpenSpec.ofChange xmlShowsWrong)

/-- 'pleacherlaw.XmlParses': WHATEVER THE INPUT: true; the input reads as it did. -/
def xmlParsesSpec : ChangeSpec := { name := "xmlParses", fn := fun _ => fun
  | [d] => { results := [.lit (.bool true)], args := [d] }
  | _ => none }
def xmlParsesRow : OpenClaim := { program := "ytalalhngpcmoeaadoor", sum := "0883b86bcc8876fa0dc6b7cc96397ed5dbbf85965c2477648865e946f626221e", func := "pleacher/pleacherlaw.XmlParses", spec := "xmlParses", inPlace := ["internal/bytealg.IndexByteString", "internal/bytealg.IndexString", "internal/abi.NoEscape"], named := ["pleacher/xml.escapes", "internal/bytealg.MaxLen", "unicode/utf8.first", "unicode/utf8.acceptRanges"], plainKeys := false, apart := false, laid := [("unicode/utf8.acceptRanges", laid_unicode_utf8_acceptRanges), ("pleacher/xml.escapes", laid_pleacher_xml_escapes), ("unicode/utf8.first", laid_unicode_utf8_first)] }
def XmlParsesSaid : Prop := xmlParsesRow.holds Tryd.pinned (OpenSpec.ofChange xmlParsesSpec)

/-- ITS FALSE NEIGHBOUR: 'it returns false'. Refute it at one input. -/
def xmlParsesWrong : ChangeSpec := { name := "xmlParses", fn := fun _ => fun
  | [d] => { results := [.lit (.bool false)], args := [d] }
  | _ => none }
def XmlParsesWrongFalsely : Prop := xmlParsesRow.holds Tryd.pinned (OpenSpec.ofChange xmlParsesWrong)

/-- 'pleacherlaw.CoreLowers': WHATEVER THE INPUT: true; the input reads as it did. -/
def coreLowersSpec : ChangeSpec := { name := "coreLowers", fn := fun _ => fun
  | [d] => { results := [.lit (.bool true)], args := [d] }
  | _ => none }
def coreLowersRow : OpenClaim := { program := "ytalalhngpcmoeaadoor", sum := "0883b86bcc8876fa0dc6b7cc96397ed5dbbf85965c2477648865e946f626221e", func := "pleacher/pleacherlaw.CoreLowers", spec := "coreLowers", recurses := true, named := ["pleacher/core.operators", "unicode/utf8.first", "unicode/utf8.acceptRanges", "pleacher/core.called", "pleacher/core.arity"], loops := true, plainKeys := false, apart := false, laid := [("unicode/utf8.acceptRanges", laid_unicode_utf8_acceptRanges), ("pleacher/core.arity", laid_pleacher_core_arity), ("pleacher/core.called", laid_pleacher_core_called), ("pleacher/core.operators", laid_pleacher_core_operators), ("unicode/utf8.first", laid_unicode_utf8_first)] }
def CoreLowersSaid : Prop := coreLowersRow.holds Tryd.pinned (OpenSpec.ofChange coreLowersSpec)

/-- ITS FALSE NEIGHBOUR: 'it returns false'. Refute it at one input. -/
def coreLowersWrong : ChangeSpec := { name := "coreLowers", fn := fun _ => fun
  | [d] => { results := [.lit (.bool false)], args := [d] }
  | _ => none }
def CoreLowersWrongFalsely : Prop := coreLowersRow.holds Tryd.pinned (OpenSpec.ofChange coreLowersWrong)

/-- 'pleacherlaw.ReadParses': WHATEVER THE INPUT: true; the input reads as it did. -/
def readParsesSpec : ChangeSpec := { name := "readParses", fn := fun _ => fun
  | [d] => { results := [.lit (.bool true)], args := [d] }
  | _ => none }
def readParsesRow : OpenClaim := { program := "ytalalhngpcmoeaadoor", sum := "0883b86bcc8876fa0dc6b7cc96397ed5dbbf85965c2477648865e946f626221e", func := "pleacher/pleacherlaw.ReadParses", spec := "readParses", inPlace := ["internal/bytealg.IndexByteString", "internal/bytealg.IndexString"], unfollowed := true, recurses := true, named := ["pleacher/read.marks", "internal/bytealg.MaxLen", "unicode/utf8.first", "unicode/utf8.acceptRanges", "pleacher/read.axes", "pleacher/read.binaries"], plainKeys := false, apart := false, laid := [("unicode/utf8.acceptRanges", laid_unicode_utf8_acceptRanges), ("pleacher/read.marks", laid_pleacher_read_marks), ("pleacher/read.axes", laid_pleacher_read_axes), ("pleacher/read.binaries", laid_pleacher_read_binaries), ("unicode/utf8.first", laid_unicode_utf8_first)] }
def ReadParsesSaid : Prop := readParsesRow.holds Tryd.pinned (OpenSpec.ofChange readParsesSpec)

/-- ITS FALSE NEIGHBOUR: 'it returns false'. Refute it at one input. -/
def readParsesWrong : ChangeSpec := { name := "readParses", fn := fun _ => fun
  | [d] => { results := [.lit (.bool false)], args := [d] }
  | _ => none }
def ReadParsesWrongFalsely : Prop := readParsesRow.holds Tryd.pinned (OpenSpec.ofChange readParsesWrong)

/- THE SECOND FORM. 'bulk': how many values and letters a reading holds, each counted each time it is reached (what is shared counts as often as it is met; a slice's spare places count too). A statement '..UptoSaid' is the law's where the arguments, and the package variables that the reading takes, are together of bulk at most 1048576: NARROWER than '..Said'. Prove '..Said' where nothing that the law and all that it calls make is longer than what came in: it says more and counts as full. Else prove '..UptoSaid'. A law counts once. -/
mutual
def uptoBulk {H : Type} : DataW H → Nat
  | .lit (.string bytes) => bytes.length + 1
  | .lit _ => 1
  | .nil => 1
  | .ptr d => uptoBulk d + 1
  | .slice elems spare => uptoBulkAll elems + uptoBulkAll spare + 1
  | .agg parts => uptoBulkAll parts + 1
  | .iface _ d => uptoBulk d + 1
  | .map entries => uptoBulkEntries entries + 1
  | .held _ => 1
def uptoBulkAll {H : Type} : List (DataW H) → Nat
  | [] => 0
  | d :: r => uptoBulk d + uptoBulkAll r
def uptoBulkEntries {H : Type} : List (Lit × DataW H) → Nat
  | [] => 0
  | x :: r => uptoBulkEntry x + uptoBulkEntries r
def uptoBulkEntry {H : Type} : Lit × DataW H → Nat
  | (.string bytes, d) => bytes.length + uptoBulk d + 1
  | (_, d) => uptoBulk d + 1
 end
def uptoSmall : (H : Type) → List (DataW H) → Bool := fun _ ds => decide (uptoBulkAll ds ≤ 1048576)
def OpenSpec.upto (s : _root_.Go.ChangeSpec) : _root_.Go.OpenSpec := { _root_.Go.OpenSpec.ofChange s with cond := some uptoSmall }

/-- 'pleacherlaw.ReadCuts', WHERE WHAT IT READS IS OF BULK AT MOST 1048576: true; the input reads as it did. -/
def readCutsUptoRow : OpenClaim := { program := "ytalalhngpcmoeaadoor", sum := "0883b86bcc8876fa0dc6b7cc96397ed5dbbf85965c2477648865e946f626221e", func := "pleacher/pleacherlaw.ReadCuts", spec := "readCuts", inPlace := ["internal/bytealg.IndexByteString"], named := ["pleacher/read.marks", "unicode/utf8.first", "unicode/utf8.acceptRanges"], plainKeys := false, apart := false, laid := [("unicode/utf8.acceptRanges", laid_unicode_utf8_acceptRanges), ("pleacher/read.marks", laid_pleacher_read_marks), ("unicode/utf8.first", laid_unicode_utf8_first)], narrowed := true }
def ReadCutsUptoSaid : Prop := readCutsUptoRow.holds Tryd.pinned (OpenSpec.upto readCutsSpec)

/-- 'pleacherlaw.RelGroups', WHERE WHAT IT READS IS OF BULK AT MOST 1048576: true; the input reads as it did. -/
def relGroupsUptoRow : OpenClaim := { program := "ytalalhngpcmoeaadoor", sum := "0883b86bcc8876fa0dc6b7cc96397ed5dbbf85965c2477648865e946f626221e", func := "pleacher/pleacherlaw.RelGroups", spec := "relGroups", unfollowed := true, recurses := true, named := ["unicode/utf8.first", "unicode/utf8.acceptRanges"], plainKeys := false, apart := false, laid := [("unicode/utf8.acceptRanges", laid_unicode_utf8_acceptRanges), ("unicode/utf8.first", laid_unicode_utf8_first)], narrowed := true }
def RelGroupsUptoSaid : Prop := relGroupsUptoRow.holds Tryd.pinned (OpenSpec.upto relGroupsSpec)

/-- 'pleacherlaw.CoreChecks', WHERE WHAT IT READS IS OF BULK AT MOST 1048576: true; the input reads as it did. -/
def coreChecksUptoRow : OpenClaim := { program := "ytalalhngpcmoeaadoor", sum := "0883b86bcc8876fa0dc6b7cc96397ed5dbbf85965c2477648865e946f626221e", func := "pleacher/pleacherlaw.CoreChecks", spec := "coreChecks", recurses := true, named := ["pleacher/core.arity", "unicode/utf8.first", "unicode/utf8.acceptRanges"], loops := true, plainKeys := false, apart := false, laid := [("unicode/utf8.acceptRanges", laid_unicode_utf8_acceptRanges), ("pleacher/core.arity", laid_pleacher_core_arity), ("unicode/utf8.first", laid_unicode_utf8_first)], narrowed := true }
def CoreChecksUptoSaid : Prop := coreChecksUptoRow.holds Tryd.pinned (OpenSpec.upto coreChecksSpec)

/-- 'pleacherlaw.XmlEscapes', WHERE WHAT IT READS IS OF BULK AT MOST 1048576: true; the input reads as it did. -/
def xmlEscapesUptoRow : OpenClaim := { program := "ytalalhngpcmoeaadoor", sum := "0883b86bcc8876fa0dc6b7cc96397ed5dbbf85965c2477648865e946f626221e", func := "pleacher/pleacherlaw.XmlEscapes", spec := "xmlEscapes", inPlace := ["internal/bytealg.CountString", "internal/bytealg.IndexByteString", "internal/bytealg.IndexString", "internal/abi.NoEscape", "internal/bytealg.MakeNoZero"], named := ["pleacher/xml.escapes", "internal/bytealg.MaxLen", "unicode/utf8.first", "unicode/utf8.acceptRanges"], plainKeys := false, apart := false, laid := [("unicode/utf8.acceptRanges", laid_unicode_utf8_acceptRanges), ("pleacher/xml.escapes", laid_pleacher_xml_escapes), ("unicode/utf8.first", laid_unicode_utf8_first)], narrowed := true }
def XmlEscapesUptoSaid : Prop := xmlEscapesUptoRow.holds Tryd.pinned (OpenSpec.upto xmlEscapesSpec)

/-- 'pleacherlaw.XmlChecks', WHERE WHAT IT READS IS OF BULK AT MOST 1048576: true; the input reads as it did. -/
def xmlChecksUptoRow : OpenClaim := { program := "ytalalhngpcmoeaadoor", sum := "0883b86bcc8876fa0dc6b7cc96397ed5dbbf85965c2477648865e946f626221e", func := "pleacher/pleacherlaw.XmlChecks", spec := "xmlChecks", inPlace := ["internal/bytealg.IndexByteString", "internal/bytealg.IndexString"], named := ["unicode/utf8.first", "unicode/utf8.acceptRanges", "internal/bytealg.MaxLen"], plainKeys := false, apart := false, laid := [("unicode/utf8.acceptRanges", laid_unicode_utf8_acceptRanges), ("unicode/utf8.first", laid_unicode_utf8_first)], narrowed := true }
def XmlChecksUptoSaid : Prop := xmlChecksUptoRow.holds Tryd.pinned (OpenSpec.upto xmlChecksSpec)

/-- 'pleacherlaw.StoreShreds', WHERE WHAT IT READS IS OF BULK AT MOST 1048576: true; the input reads as it did. -/
def storeShredsUptoRow : OpenClaim := { program := "ytalalhngpcmoeaadoor", sum := "0883b86bcc8876fa0dc6b7cc96397ed5dbbf85965c2477648865e946f626221e", func := "pleacher/pleacherlaw.StoreShreds", spec := "storeShreds", inPlace := ["internal/bytealg.IndexByteString", "internal/bytealg.IndexString"], named := ["unicode/utf8.first", "unicode/utf8.acceptRanges", "internal/bytealg.MaxLen"], plainKeys := false, apart := false, laid := [("unicode/utf8.acceptRanges", laid_unicode_utf8_acceptRanges), ("unicode/utf8.first", laid_unicode_utf8_first)], narrowed := true }
def StoreShredsUptoSaid : Prop := storeShredsUptoRow.holds Tryd.pinned (OpenSpec.upto storeShredsSpec)

/-- 'pleacherlaw.RelSorts', WHERE WHAT IT READS IS OF BULK AT MOST 1048576: true; the input reads as it did. -/
def relSortsUptoRow : OpenClaim := { program := "ytalalhngpcmoeaadoor", sum := "0883b86bcc8876fa0dc6b7cc96397ed5dbbf85965c2477648865e946f626221e", func := "pleacher/pleacherlaw.RelSorts", spec := "relSorts", inPlace := ["internal/bytealg.abigen_runtime_cmpstring"], unfollowed := true, recurses := true, named := ["unicode/utf8.first", "unicode/utf8.acceptRanges"], plainKeys := false, apart := false, laid := [("unicode/utf8.acceptRanges", laid_unicode_utf8_acceptRanges), ("unicode/utf8.first", laid_unicode_utf8_first)], narrowed := true }
def RelSortsUptoSaid : Prop := relSortsUptoRow.holds Tryd.pinned (OpenSpec.upto relSortsSpec)

/-- 'pleacherlaw.RelRanks', WHERE WHAT IT READS IS OF BULK AT MOST 1048576: true; the input reads as it did. -/
def relRanksUptoRow : OpenClaim := { program := "ytalalhngpcmoeaadoor", sum := "0883b86bcc8876fa0dc6b7cc96397ed5dbbf85965c2477648865e946f626221e", func := "pleacher/pleacherlaw.RelRanks", spec := "relRanks", inPlace := ["internal/bytealg.abigen_runtime_cmpstring", "internal/abi.NoEscape"], unfollowed := true, recurses := true, named := ["unicode/utf8.first", "unicode/utf8.acceptRanges"], plainKeys := false, apart := false, laid := [("unicode/utf8.acceptRanges", laid_unicode_utf8_acceptRanges), ("unicode/utf8.first", laid_unicode_utf8_first)], narrowed := true }
def RelRanksUptoSaid : Prop := relRanksUptoRow.holds Tryd.pinned (OpenSpec.upto relRanksSpec)

/-- 'pleacherlaw.XmlShows', WHERE WHAT IT READS IS OF BULK AT MOST 1048576: true; the input reads as it did. -/
def xmlShowsUptoRow : OpenClaim := { program := "ytalalhngpcmoeaadoor", sum := "0883b86bcc8876fa0dc6b7cc96397ed5dbbf85965c2477648865e946f626221e", func := "pleacher/pleacherlaw.XmlShows", spec := "xmlShows", inPlace := ["internal/bytealg.IndexByteString", "internal/bytealg.IndexString", "internal/abi.NoEscape", "internal/bytealg.CountString", "internal/bytealg.MakeNoZero"], named := ["unicode/utf8.first", "unicode/utf8.acceptRanges", "internal/bytealg.MaxLen", "pleacher/xml.escapes"], plainKeys := false, apart := false, laid := [("unicode/utf8.acceptRanges", laid_unicode_utf8_acceptRanges), ("pleacher/xml.escapes", laid_pleacher_xml_escapes), ("unicode/utf8.first", laid_unicode_utf8_first)], narrowed := true }
def XmlShowsUptoSaid : Prop := xmlShowsUptoRow.holds Tryd.pinned (OpenSpec.upto xmlShowsSpec)

/-- 'pleacherlaw.XmlParses', WHERE WHAT IT READS IS OF BULK AT MOST 1048576: true; the input reads as it did. -/
def xmlParsesUptoRow : OpenClaim := { program := "ytalalhngpcmoeaadoor", sum := "0883b86bcc8876fa0dc6b7cc96397ed5dbbf85965c2477648865e946f626221e", func := "pleacher/pleacherlaw.XmlParses", spec := "xmlParses", inPlace := ["internal/bytealg.IndexByteString", "internal/bytealg.IndexString", "internal/abi.NoEscape"], named := ["pleacher/xml.escapes", "internal/bytealg.MaxLen", "unicode/utf8.first", "unicode/utf8.acceptRanges"], plainKeys := false, apart := false, laid := [("unicode/utf8.acceptRanges", laid_unicode_utf8_acceptRanges), ("pleacher/xml.escapes", laid_pleacher_xml_escapes), ("unicode/utf8.first", laid_unicode_utf8_first)], narrowed := true }
def XmlParsesUptoSaid : Prop := xmlParsesUptoRow.holds Tryd.pinned (OpenSpec.upto xmlParsesSpec)

/-- 'pleacherlaw.CoreLowers', WHERE WHAT IT READS IS OF BULK AT MOST 1048576: true; the input reads as it did. -/
def coreLowersUptoRow : OpenClaim := { program := "ytalalhngpcmoeaadoor", sum := "0883b86bcc8876fa0dc6b7cc96397ed5dbbf85965c2477648865e946f626221e", func := "pleacher/pleacherlaw.CoreLowers", spec := "coreLowers", recurses := true, named := ["pleacher/core.operators", "unicode/utf8.first", "unicode/utf8.acceptRanges", "pleacher/core.called", "pleacher/core.arity"], loops := true, plainKeys := false, apart := false, laid := [("unicode/utf8.acceptRanges", laid_unicode_utf8_acceptRanges), ("pleacher/core.arity", laid_pleacher_core_arity), ("pleacher/core.called", laid_pleacher_core_called), ("pleacher/core.operators", laid_pleacher_core_operators), ("unicode/utf8.first", laid_unicode_utf8_first)], narrowed := true }
def CoreLowersUptoSaid : Prop := coreLowersUptoRow.holds Tryd.pinned (OpenSpec.upto coreLowersSpec)

/-- 'pleacherlaw.ReadParses', WHERE WHAT IT READS IS OF BULK AT MOST 1048576: true; the input reads as it did. -/
def readParsesUptoRow : OpenClaim := { program := "ytalalhngpcmoeaadoor", sum := "0883b86bcc8876fa0dc6b7cc96397ed5dbbf85965c2477648865e946f626221e", func := "pleacher/pleacherlaw.ReadParses", spec := "readParses", inPlace := ["internal/bytealg.IndexByteString", "internal/bytealg.IndexString"], unfollowed := true, recurses := true, named := ["pleacher/read.marks", "internal/bytealg.MaxLen", "unicode/utf8.first", "unicode/utf8.acceptRanges", "pleacher/read.axes", "pleacher/read.binaries"], plainKeys := false, apart := false, laid := [("unicode/utf8.acceptRanges", laid_unicode_utf8_acceptRanges), ("pleacher/read.marks", laid_pleacher_read_marks), ("pleacher/read.axes", laid_pleacher_read_axes), ("pleacher/read.binaries", laid_pleacher_read_binaries), ("unicode/utf8.first", laid_unicode_utf8_first)], narrowed := true }
def ReadParsesUptoSaid : Prop := readParsesUptoRow.holds Tryd.pinned (OpenSpec.upto readParsesSpec)

end Rows
end Go.Proofs.YtalalhngpcmoeaaDoor
