/-
  NARROWER THAN 'FOR EVERY INPUT', by the rows' own cells (each row's printed sentence says how): RelGroups: laid · RelJoins: laid · CoreChecks: loops, laid · RelUniques: laid · RelExcepts: laid · XmlEscapes: laid · XmlChecks: laid · StoreShreds: laid · RelSorts: laid · RelRanks: laid · XmlShows: laid · XmlParses: laid.
  DERIVED. THE GIVEN ROWS OF THIS SEAT. 12 by the template 'for every input the law returns true; each argument reads behind the call as it read before'; 0 by the template 'total and deterministic' (their statements: YtafbojmnmadlpaaDoorTotals.lean).
  GIVEN WITH THE SEED: the statements are not yours to turn. If you find one false, say at which input.
  Laid BY PROGRAM, IN A SANDBOX (cutbox-rows.mjs): the forced cells as the released guide's own fill.sh prints them over the translation fc014763abea501c… (all of the seat's roots in one cut). By AI agents, Wed Nov 11 2026. No macro, syntax, notation, axiom, sorry.
-/
import Derived.Test.YtafbojmnmadlpaaDoorChecked
import GoSem.PinnedTables
import GoSem.Claim
import GoSem.ClaimJoined
import GoSem.ClaimMapViews
import Derived.JoinedTies
import Derived.KernelRfl
namespace Go.Proofs.YtafbojmnmadlpaaDoor
/- THE CELL 'sum', in the pinned program and in every row, IS THE sha256 OF THE DUMP (.gsa) THAT YtafbojmnmadlpaaDoorProg.lean LOADS. Nothing in Lean hashes anything: it is a label: what it is worth is what the hold of that sum in a sandbox is worth. -/
noncomputable def Tryd.pinned : Pinned := { name := "ytafbojmnmadlpaadoor", sum := "fc014763abea501c60e5fdfdb7e135805db74c50e9498faa2806f31ed4daacd3", checked := Tryd.checked }
namespace Rows
def none {H : Type} : Left H := { results := [], args := [] }

/- WHAT THE LISTED PACKAGE-LEVEL VARIABLES READ AS WHEN THE CALL BEGINS. Each datum BY PROGRAM (the guide's laid-datum.mjs) off the statement by which the dump's own 'gosem.cut.vars' lays the variable. In a bare row this is a premise. The card (YtafbojmnmadlpaaDoorCards.lean) ties it to the program's text. -/
def laid_unicode_utf8_acceptRanges {H : Type} : DataW H := .agg [.agg [.lit (.int .u8 128), .lit (.int .u8 191)], .agg [.lit (.int .u8 160), .lit (.int .u8 191)], .agg [.lit (.int .u8 128), .lit (.int .u8 159)], .agg [.lit (.int .u8 144), .lit (.int .u8 191)], .agg [.lit (.int .u8 128), .lit (.int .u8 143)], .agg [.lit (.int .u8 0), .lit (.int .u8 0)], .agg [.lit (.int .u8 0), .lit (.int .u8 0)], .agg [.lit (.int .u8 0), .lit (.int .u8 0)], .agg [.lit (.int .u8 0), .lit (.int .u8 0)], .agg [.lit (.int .u8 0), .lit (.int .u8 0)], .agg [.lit (.int .u8 0), .lit (.int .u8 0)], .agg [.lit (.int .u8 0), .lit (.int .u8 0)], .agg [.lit (.int .u8 0), .lit (.int .u8 0)], .agg [.lit (.int .u8 0), .lit (.int .u8 0)], .agg [.lit (.int .u8 0), .lit (.int .u8 0)], .agg [.lit (.int .u8 0), .lit (.int .u8 0)]]
/-- One of Go's own tables, pinned by name: the form's constant. -/
def laid_unicode_utf8_first : DataW Unit := Go.Pinned.utf8First
def laid_pleacher_core_arity {H : Type} : DataW H := .map [(.string [33, 61], .lit (.int .i64 2)), (.string [42], .lit (.int .i64 2)), (.string [43], .lit (.int .i64 2)), (.string [45], .lit (.int .i64 2)), (.string [60], .lit (.int .i64 2)), (.string [60, 60], .lit (.int .i64 2)), (.string [60, 61], .lit (.int .i64 2)), (.string [61], .lit (.int .i64 2)), (.string [62], .lit (.int .i64 2)), (.string [62, 61], .lit (.int .i64 2)), (.string [62, 62], .lit (.int .i64 2)), (.string [97, 110, 100], .lit (.int .i64 2)), (.string [98, 111, 111, 108, 101, 97, 110], .lit (.int .i64 1)), (.string [99, 111, 110, 99, 97, 116], .lit (.int .i64 2)), (.string [99, 111, 110, 116, 97, 105, 110, 115], .lit (.int .i64 2)), (.string [99, 111, 117, 110, 116], .lit (.int .i64 1)), (.string [100, 97, 116, 97], .lit (.int .i64 1)), (.string [100, 100, 111], .lit (.int .i64 1)), (.string [100, 105, 115, 116, 105, 110, 99, 116], .lit (.int .i64 1)), (.string [100, 105, 118], .lit (.int .i64 2)), (.string [101, 109, 112, 116, 121], .lit (.int .i64 1)), (.string [101, 120, 99, 101, 112, 116], .lit (.int .i64 2)), (.string [101, 120, 105, 115, 116, 115], .lit (.int .i64 1)), (.string [104, 111, 108, 100, 115], .lit (.int .i64 2)), (.string [105, 110, 116, 101, 103, 101, 114], .lit (.int .i64 1)), (.string [105, 110, 116, 101, 114, 115, 101, 99, 116], .lit (.int .i64 2)), (.string [105, 115], .lit (.int .i64 2)), (.string [108, 101, 110, 103, 116, 104], .lit (.int .i64 1)), (.string [109, 97, 120], .lit (.int .i64 1)), (.string [109, 105, 110], .lit (.int .i64 1)), (.string [109, 111, 100], .lit (.int .i64 2)), (.string [110, 97, 109, 101], .lit (.int .i64 1)), (.string [110, 101, 103], .lit (.int .i64 1)), (.string [110, 111, 116], .lit (.int .i64 1)), (.string [111, 114], .lit (.int .i64 2)), (.string [114, 101, 118, 101, 114, 115, 101], .lit (.int .i64 1)), (.string [115, 116, 97, 114, 116, 115], .lit (.int .i64 2)), (.string [115, 116, 114, 105, 110, 103], .lit (.int .i64 1)), (.string [115, 117, 98, 115, 116, 114, 105, 110, 103], .lit (.int .i64 3)), (.string [115, 117, 109], .lit (.int .i64 1)), (.string [116, 111], .lit (.int .i64 2)), (.string [117, 110, 105, 111, 110], .lit (.int .i64 2))]
def laid_pleacher_xml_escapes {H : Type} : DataW H := .agg [.agg [.lit (.string [38]), .lit (.string [38, 97, 109, 112, 59])], .agg [.lit (.string [60]), .lit (.string [38, 108, 116, 59])], .agg [.lit (.string [62]), .lit (.string [38, 103, 116, 59])], .agg [.lit (.string [34]), .lit (.string [38, 113, 117, 111, 116, 59])]]

/-- 'pleacherlaw.RelGroups': WHATEVER THE INPUT: true; the input reads as it did. -/
def relGroupsSpec : ChangeSpec := { name := "relGroups", fn := fun _ => fun
  | [d1, d2, d3, d4, d5] => { results := [.lit (.bool true)], args := [d1, d2, d3, d4, d5] }
  | _ => none }
def relGroupsRow : OpenClaim := { program := "ytafbojmnmadlpaadoor", sum := "fc014763abea501c60e5fdfdb7e135805db74c50e9498faa2806f31ed4daacd3", func := "pleacher/pleacherlaw.RelGroups", spec := "relGroups", unfollowed := true, recurses := true, named := ["unicode/utf8.first", "unicode/utf8.acceptRanges"], plainKeys := false, apart := false, laid := [("unicode/utf8.acceptRanges", laid_unicode_utf8_acceptRanges), ("unicode/utf8.first", laid_unicode_utf8_first)] }
def RelGroupsSaid : Prop := relGroupsRow.holds Tryd.pinned (OpenSpec.ofChange relGroupsSpec)

/-- ITS FALSE NEIGHBOUR: 'it returns false'. Refute it at one input. -/
def relGroupsWrong : ChangeSpec := { name := "relGroups", fn := fun _ => fun
  | [d1, d2, d3, d4, d5] => { results := [.lit (.bool false)], args := [d1, d2, d3, d4, d5] }
  | _ => none }
def RelGroupsWrongFalsely : Prop := relGroupsRow.holds Tryd.pinned (OpenSpec.ofChange relGroupsWrong)

/-- 'pleacherlaw.RelJoins': WHATEVER THE INPUT: true; the input reads as it did. -/
def relJoinsSpec : ChangeSpec := { name := "relJoins", fn := fun _ => fun
  | [d1, d2, d3, d4] => { results := [.lit (.bool true)], args := [d1, d2, d3, d4] }
  | _ => none }
def relJoinsRow : OpenClaim := { program := "ytafbojmnmadlpaadoor", sum := "fc014763abea501c60e5fdfdb7e135805db74c50e9498faa2806f31ed4daacd3", func := "pleacher/pleacherlaw.RelJoins", spec := "relJoins", unfollowed := true, recurses := true, named := ["unicode/utf8.first", "unicode/utf8.acceptRanges"], plainKeys := false, apart := false, laid := [("unicode/utf8.acceptRanges", laid_unicode_utf8_acceptRanges), ("unicode/utf8.first", laid_unicode_utf8_first)] }
def RelJoinsSaid : Prop := relJoinsRow.holds Tryd.pinned (OpenSpec.ofChange relJoinsSpec)

/-- ITS FALSE NEIGHBOUR: 'it returns false'. Refute it at one input. -/
def relJoinsWrong : ChangeSpec := { name := "relJoins", fn := fun _ => fun
  | [d1, d2, d3, d4] => { results := [.lit (.bool false)], args := [d1, d2, d3, d4] }
  | _ => none }
def RelJoinsWrongFalsely : Prop := relJoinsRow.holds Tryd.pinned (OpenSpec.ofChange relJoinsWrong)

/-- 'pleacherlaw.CoreChecks': WHATEVER THE INPUT: true; the input reads as it did. -/
def coreChecksSpec : ChangeSpec := { name := "coreChecks", fn := fun _ => fun
  | [d] => { results := [.lit (.bool true)], args := [d] }
  | _ => none }
def coreChecksRow : OpenClaim := { program := "ytafbojmnmadlpaadoor", sum := "fc014763abea501c60e5fdfdb7e135805db74c50e9498faa2806f31ed4daacd3", func := "pleacher/pleacherlaw.CoreChecks", spec := "coreChecks", recurses := true, named := ["pleacher/core.arity", "unicode/utf8.first", "unicode/utf8.acceptRanges"], loops := true, plainKeys := false, apart := false, laid := [("unicode/utf8.acceptRanges", laid_unicode_utf8_acceptRanges), ("pleacher/core.arity", laid_pleacher_core_arity), ("unicode/utf8.first", laid_unicode_utf8_first)] }
def CoreChecksSaid : Prop := coreChecksRow.holds Tryd.pinned (OpenSpec.ofChange coreChecksSpec)

/-- ITS FALSE NEIGHBOUR: 'it returns false'. Refute it at one input. -/
def coreChecksWrong : ChangeSpec := { name := "coreChecks", fn := fun _ => fun
  | [d] => { results := [.lit (.bool false)], args := [d] }
  | _ => none }
def CoreChecksWrongFalsely : Prop := coreChecksRow.holds Tryd.pinned (OpenSpec.ofChange coreChecksWrong)

/-- 'pleacherlaw.RelUniques': WHATEVER THE INPUT: true; the input reads as it did. -/
def relUniquesSpec : ChangeSpec := { name := "relUniques", fn := fun _ => fun
  | [d1, d2] => { results := [.lit (.bool true)], args := [d1, d2] }
  | _ => none }
def relUniquesRow : OpenClaim := { program := "ytafbojmnmadlpaadoor", sum := "fc014763abea501c60e5fdfdb7e135805db74c50e9498faa2806f31ed4daacd3", func := "pleacher/pleacherlaw.RelUniques", spec := "relUniques", inPlace := ["internal/abi.NoEscape"], unfollowed := true, recurses := true, named := ["unicode/utf8.first", "unicode/utf8.acceptRanges"], plainKeys := false, apart := false, laid := [("unicode/utf8.acceptRanges", laid_unicode_utf8_acceptRanges), ("unicode/utf8.first", laid_unicode_utf8_first)] }
def RelUniquesSaid : Prop := relUniquesRow.holds Tryd.pinned (OpenSpec.ofChange relUniquesSpec)

/-- ITS FALSE NEIGHBOUR: 'it returns false'. Refute it at one input. -/
def relUniquesWrong : ChangeSpec := { name := "relUniques", fn := fun _ => fun
  | [d1, d2] => { results := [.lit (.bool false)], args := [d1, d2] }
  | _ => none }
def RelUniquesWrongFalsely : Prop := relUniquesRow.holds Tryd.pinned (OpenSpec.ofChange relUniquesWrong)

/-- 'pleacherlaw.RelExcepts': WHATEVER THE INPUT: true; the input reads as it did. -/
def relExceptsSpec : ChangeSpec := { name := "relExcepts", fn := fun _ => fun
  | [d1, d2, d3] => { results := [.lit (.bool true)], args := [d1, d2, d3] }
  | _ => none }
def relExceptsRow : OpenClaim := { program := "ytafbojmnmadlpaadoor", sum := "fc014763abea501c60e5fdfdb7e135805db74c50e9498faa2806f31ed4daacd3", func := "pleacher/pleacherlaw.RelExcepts", spec := "relExcepts", inPlace := ["internal/abi.NoEscape"], unfollowed := true, recurses := true, named := ["unicode/utf8.first", "unicode/utf8.acceptRanges"], plainKeys := false, apart := false, laid := [("unicode/utf8.acceptRanges", laid_unicode_utf8_acceptRanges), ("unicode/utf8.first", laid_unicode_utf8_first)] }
def RelExceptsSaid : Prop := relExceptsRow.holds Tryd.pinned (OpenSpec.ofChange relExceptsSpec)

/-- ITS FALSE NEIGHBOUR: 'it returns false'. Refute it at one input. -/
def relExceptsWrong : ChangeSpec := { name := "relExcepts", fn := fun _ => fun
  | [d1, d2, d3] => { results := [.lit (.bool false)], args := [d1, d2, d3] }
  | _ => none }
def RelExceptsWrongFalsely : Prop := relExceptsRow.holds Tryd.pinned (OpenSpec.ofChange relExceptsWrong)

/-- 'pleacherlaw.XmlEscapes': WHATEVER THE INPUT: true; the input reads as it did. -/
def xmlEscapesSpec : ChangeSpec := { name := "xmlEscapes", fn := fun _ => fun
  | [d] => { results := [.lit (.bool true)], args := [d] }
  | _ => none }
def xmlEscapesRow : OpenClaim := { program := "ytafbojmnmadlpaadoor", sum := "fc014763abea501c60e5fdfdb7e135805db74c50e9498faa2806f31ed4daacd3", func := "pleacher/pleacherlaw.XmlEscapes", spec := "xmlEscapes", inPlace := ["internal/bytealg.CountString", "internal/bytealg.IndexByteString", "internal/bytealg.IndexString", "internal/abi.NoEscape", "internal/bytealg.MakeNoZero"], named := ["pleacher/xml.escapes", "internal/bytealg.MaxLen", "unicode/utf8.first", "unicode/utf8.acceptRanges"], plainKeys := false, apart := false, laid := [("unicode/utf8.acceptRanges", laid_unicode_utf8_acceptRanges), ("pleacher/xml.escapes", laid_pleacher_xml_escapes), ("unicode/utf8.first", laid_unicode_utf8_first)] }
def XmlEscapesSaid : Prop := xmlEscapesRow.holds Tryd.pinned (OpenSpec.ofChange xmlEscapesSpec)

/-- ITS FALSE NEIGHBOUR: 'it returns false'. Refute it at one input. -/
def xmlEscapesWrong : ChangeSpec := { name := "xmlEscapes", fn := fun _ => fun
  | [d] => { results := [.lit (.bool false)], args := [d] }
  | _ => none }
def XmlEscapesWrongFalsely : Prop := xmlEscapesRow.holds Tryd.pinned (OpenSpec.ofChange xmlEscapesWrong)

/-- 'pleacherlaw.XmlChecks': WHATEVER THE INPUT: true; the input reads as it did. -/
def xmlChecksSpec : ChangeSpec := { name := "xmlChecks", fn := fun _ => fun
  | [d] => { results := [.lit (.bool true)], args := [d] }
  | _ => none }
def xmlChecksRow : OpenClaim := { program := "ytafbojmnmadlpaadoor", sum := "fc014763abea501c60e5fdfdb7e135805db74c50e9498faa2806f31ed4daacd3", func := "pleacher/pleacherlaw.XmlChecks", spec := "xmlChecks", inPlace := ["internal/bytealg.IndexByteString", "internal/bytealg.IndexString"], named := ["unicode/utf8.first", "unicode/utf8.acceptRanges", "internal/bytealg.MaxLen"], plainKeys := false, apart := false, laid := [("unicode/utf8.acceptRanges", laid_unicode_utf8_acceptRanges), ("unicode/utf8.first", laid_unicode_utf8_first)] }
def XmlChecksSaid : Prop := xmlChecksRow.holds Tryd.pinned (OpenSpec.ofChange xmlChecksSpec)

/-- ITS FALSE NEIGHBOUR: 'it returns false'. Refute it at one input. -/
def xmlChecksWrong : ChangeSpec := { name := "xmlChecks", fn := fun _ => fun
  | [d] => { results := [.lit (.bool false)], args := [d] }
  | _ => none }
def XmlChecksWrongFalsely : Prop := xmlChecksRow.holds Tryd.pinned (OpenSpec.ofChange xmlChecksWrong)

/-- 'pleacherlaw.StoreShreds': WHATEVER THE INPUT: true; the input reads as it did. -/
def storeShredsSpec : ChangeSpec := { name := "storeShreds", fn := fun _ => fun
  | [d] => { results := [.lit (.bool true)], args := [d] }
  | _ => none }
def storeShredsRow : OpenClaim := { program := "ytafbojmnmadlpaadoor", sum := "fc014763abea501c60e5fdfdb7e135805db74c50e9498faa2806f31ed4daacd3", func := "pleacher/pleacherlaw.StoreShreds", spec := "storeShreds", inPlace := ["internal/bytealg.IndexByteString", "internal/bytealg.IndexString"], named := ["unicode/utf8.first", "unicode/utf8.acceptRanges", "internal/bytealg.MaxLen"], plainKeys := false, apart := false, laid := [("unicode/utf8.acceptRanges", laid_unicode_utf8_acceptRanges), ("unicode/utf8.first", laid_unicode_utf8_first)] }
def StoreShredsSaid : Prop := storeShredsRow.holds Tryd.pinned (OpenSpec.ofChange storeShredsSpec)

/-- ITS FALSE NEIGHBOUR: 'it returns false'. Refute it at one input. -/
def storeShredsWrong : ChangeSpec := { name := "storeShreds", fn := fun _ => fun
  | [d] => { results := [.lit (.bool false)], args := [d] }
  | _ => none }
def StoreShredsWrongFalsely : Prop := storeShredsRow.holds Tryd.pinned (OpenSpec.ofChange storeShredsWrong)

/-- 'pleacherlaw.RelSorts': WHATEVER THE INPUT: true; the input reads as it did. -/
def relSortsSpec : ChangeSpec := { name := "relSorts", fn := fun _ => fun
  | [d1, d2] => { results := [.lit (.bool true)], args := [d1, d2] }
  | _ => none }
def relSortsRow : OpenClaim := { program := "ytafbojmnmadlpaadoor", sum := "fc014763abea501c60e5fdfdb7e135805db74c50e9498faa2806f31ed4daacd3", func := "pleacher/pleacherlaw.RelSorts", spec := "relSorts", inPlace := ["internal/bytealg.abigen_runtime_cmpstring"], unfollowed := true, recurses := true, named := ["unicode/utf8.first", "unicode/utf8.acceptRanges"], plainKeys := false, apart := false, laid := [("unicode/utf8.acceptRanges", laid_unicode_utf8_acceptRanges), ("unicode/utf8.first", laid_unicode_utf8_first)] }
def RelSortsSaid : Prop := relSortsRow.holds Tryd.pinned (OpenSpec.ofChange relSortsSpec)

/-- ITS FALSE NEIGHBOUR: 'it returns false'. Refute it at one input. -/
def relSortsWrong : ChangeSpec := { name := "relSorts", fn := fun _ => fun
  | [d1, d2] => { results := [.lit (.bool false)], args := [d1, d2] }
  | _ => none }
def RelSortsWrongFalsely : Prop := relSortsRow.holds Tryd.pinned (OpenSpec.ofChange relSortsWrong)

/-- 'pleacherlaw.RelRanks': WHATEVER THE INPUT: true; the input reads as it did. -/
def relRanksSpec : ChangeSpec := { name := "relRanks", fn := fun _ => fun
  | [d1, d2, d3, d4] => { results := [.lit (.bool true)], args := [d1, d2, d3, d4] }
  | _ => none }
def relRanksRow : OpenClaim := { program := "ytafbojmnmadlpaadoor", sum := "fc014763abea501c60e5fdfdb7e135805db74c50e9498faa2806f31ed4daacd3", func := "pleacher/pleacherlaw.RelRanks", spec := "relRanks", inPlace := ["internal/bytealg.abigen_runtime_cmpstring", "internal/abi.NoEscape"], unfollowed := true, recurses := true, named := ["unicode/utf8.first", "unicode/utf8.acceptRanges"], plainKeys := false, apart := false, laid := [("unicode/utf8.acceptRanges", laid_unicode_utf8_acceptRanges), ("unicode/utf8.first", laid_unicode_utf8_first)] }
def RelRanksSaid : Prop := relRanksRow.holds Tryd.pinned (OpenSpec.ofChange relRanksSpec)

/-- ITS FALSE NEIGHBOUR: 'it returns false'. Refute it at one input. -/
def relRanksWrong : ChangeSpec := { name := "relRanks", fn := fun _ => fun
  | [d1, d2, d3, d4] => { results := [.lit (.bool false)], args := [d1, d2, d3, d4] }
  | _ => none }
def RelRanksWrongFalsely : Prop := relRanksRow.holds Tryd.pinned (OpenSpec.ofChange relRanksWrong)

/-- 'pleacherlaw.XmlShows': WHATEVER THE INPUT: true; the input reads as it did. -/
def xmlShowsSpec : ChangeSpec := { name := "xmlShows", fn := fun _ => fun
  | [d] => { results := [.lit (.bool true)], args := [d] }
  | _ => none }
def xmlShowsRow : OpenClaim := { program := "ytafbojmnmadlpaadoor", sum := "fc014763abea501c60e5fdfdb7e135805db74c50e9498faa2806f31ed4daacd3", func := "pleacher/pleacherlaw.XmlShows", spec := "xmlShows", inPlace := ["internal/bytealg.IndexByteString", "internal/bytealg.IndexString", "internal/abi.NoEscape", "internal/bytealg.CountString", "internal/bytealg.MakeNoZero"], named := ["unicode/utf8.first", "unicode/utf8.acceptRanges", "internal/bytealg.MaxLen", "pleacher/xml.escapes"], plainKeys := false, apart := false, laid := [("unicode/utf8.acceptRanges", laid_unicode_utf8_acceptRanges), ("pleacher/xml.escapes", laid_pleacher_xml_escapes), ("unicode/utf8.first", laid_unicode_utf8_first)] }
def XmlShowsSaid : Prop := xmlShowsRow.holds Tryd.pinned (OpenSpec.ofChange xmlShowsSpec)

/-- ITS FALSE NEIGHBOUR: 'it returns false'. Refute it at one input. -/
def xmlShowsWrong : ChangeSpec := { name := "xmlShows", fn := fun _ => fun
  | [d] => { results := [.lit (.bool false)], args := [d] }
  | _ => none }
def XmlShowsWrongFalsely : Prop := xmlShowsRow.holds Tryd.pinned (OpenSpec.ofChange xmlShowsWrong)

/-- 'pleacherlaw.XmlParses': WHATEVER THE INPUT: true; the input reads as it did. -/
def xmlParsesSpec : ChangeSpec := { name := "xmlParses", fn := fun _ => fun
  | [d] => { results := [.lit (.bool true)], args := [d] }
  | _ => none }
def xmlParsesRow : OpenClaim := { program := "ytafbojmnmadlpaadoor", sum := "fc014763abea501c60e5fdfdb7e135805db74c50e9498faa2806f31ed4daacd3", func := "pleacher/pleacherlaw.XmlParses", spec := "xmlParses", inPlace := ["internal/bytealg.IndexByteString", "internal/bytealg.IndexString", "internal/abi.NoEscape"], named := ["pleacher/xml.escapes", "internal/bytealg.MaxLen", "unicode/utf8.first", "unicode/utf8.acceptRanges"], plainKeys := false, apart := false, laid := [("unicode/utf8.acceptRanges", laid_unicode_utf8_acceptRanges), ("pleacher/xml.escapes", laid_pleacher_xml_escapes), ("unicode/utf8.first", laid_unicode_utf8_first)] }
def XmlParsesSaid : Prop := xmlParsesRow.holds Tryd.pinned (OpenSpec.ofChange xmlParsesSpec)

/-- ITS FALSE NEIGHBOUR: 'it returns false'. Refute it at one input. -/
def xmlParsesWrong : ChangeSpec := { name := "xmlParses", fn := fun _ => fun
  | [d] => { results := [.lit (.bool false)], args := [d] }
  | _ => none }
def XmlParsesWrongFalsely : Prop := xmlParsesRow.holds Tryd.pinned (OpenSpec.ofChange xmlParsesWrong)

/- THE SECOND FORM. 'bulk': how many values and letters a reading holds, each counted each time it is reached (what is shared counts as often as it is met; a slice's spare places count too). A statement '..UptoSaid' is the law's where the arguments, and the package variables that the reading takes, are together of bulk at most 1048576: NARROWER than '..Said'. Prove '..Said' where nothing that the law and all that it calls make is longer than what came in: it says more and counts as full. Else prove '..UptoSaid'. A law counts once. -/
mutual
def uptoBulk {H : Type} : DataW H → Nat
  | .lit (.string bytes) => bytes.length + 1
  | .lit _ => 1
  | .nil => 1
  | .ptr d => uptoBulk d + 1
  | .slice elems spare => uptoBulkAll elems + uptoBulkAll spare + 1
  | .agg parts => uptoBulkAll parts + 1
  | .iface _ d => uptoBulk d + 1
  | .map entries => uptoBulkEntries entries + 1
  | .held _ => 1
def uptoBulkAll {H : Type} : List (DataW H) → Nat
  | [] => 0
  | d :: r => uptoBulk d + uptoBulkAll r
def uptoBulkEntries {H : Type} : List (Lit × DataW H) → Nat
  | [] => 0
  | x :: r => uptoBulkEntry x + uptoBulkEntries r
def uptoBulkEntry {H : Type} : Lit × DataW H → Nat
  | (.string bytes, d) => bytes.length + uptoBulk d + 1
  | (_, d) => uptoBulk d + 1
 end
def uptoSmall : (H : Type) → List (DataW H) → Bool := fun _ ds => decide (uptoBulkAll ds ≤ 1048576)
def OpenSpec.upto (s : _root_.Go.ChangeSpec) : _root_.Go.OpenSpec := { _root_.Go.OpenSpec.ofChange s with cond := some uptoSmall }

/-- 'pleacherlaw.RelGroups', WHERE WHAT IT READS IS OF BULK AT MOST 1048576: true; the input reads as it did. -/
def relGroupsUptoRow : OpenClaim := { program := "ytafbojmnmadlpaadoor", sum := "fc014763abea501c60e5fdfdb7e135805db74c50e9498faa2806f31ed4daacd3", func := "pleacher/pleacherlaw.RelGroups", spec := "relGroups", unfollowed := true, recurses := true, named := ["unicode/utf8.first", "unicode/utf8.acceptRanges"], plainKeys := false, apart := false, laid := [("unicode/utf8.acceptRanges", laid_unicode_utf8_acceptRanges), ("unicode/utf8.first", laid_unicode_utf8_first)], narrowed := true }
def RelGroupsUptoSaid : Prop := relGroupsUptoRow.holds Tryd.pinned (OpenSpec.upto relGroupsSpec)

/-- 'pleacherlaw.RelJoins', WHERE WHAT IT READS IS OF BULK AT MOST 1048576: true; the input reads as it did. -/
def relJoinsUptoRow : OpenClaim := { program := "ytafbojmnmadlpaadoor", sum := "fc014763abea501c60e5fdfdb7e135805db74c50e9498faa2806f31ed4daacd3", func := "pleacher/pleacherlaw.RelJoins", spec := "relJoins", unfollowed := true, recurses := true, named := ["unicode/utf8.first", "unicode/utf8.acceptRanges"], plainKeys := false, apart := false, laid := [("unicode/utf8.acceptRanges", laid_unicode_utf8_acceptRanges), ("unicode/utf8.first", laid_unicode_utf8_first)], narrowed := true }
def RelJoinsUptoSaid : Prop := relJoinsUptoRow.holds Tryd.pinned (OpenSpec.upto relJoinsSpec)

/-- 'pleacherlaw.CoreChecks', WHERE WHAT IT READS IS OF BULK AT MOST 1048576: true; the input reads as it did. -/
def coreChecksUptoRow : OpenClaim := { program := "ytafbojmnmadlpaadoor", sum := "fc014763abea501c60e5fdfdb7e135805db74c50e9498faa2806f31ed4daacd3", func := "pleacher/pleacherlaw.CoreChecks", spec := "coreChecks", recurses := true, named := ["pleacher/core.arity", "unicode/utf8.first", "unicode/utf8.acceptRanges"], loops := true, plainKeys := false, apart := false, laid := [("unicode/utf8.acceptRanges", laid_unicode_utf8_acceptRanges), ("pleacher/core.arity", laid_pleacher_core_arity), ("unicode/utf8.first", laid_unicode_utf8_first)], narrowed := true }
def CoreChecksUptoSaid : Prop := coreChecksUptoRow.holds Tryd.pinned (OpenSpec.upto coreChecksSpec)

/-- 'pleacherlaw.RelUniques', WHERE WHAT IT READS IS OF BULK AT MOST 1048576: true; the input reads as it did. -/
def relUniquesUptoRow : OpenClaim := { program := "ytafbojmnmadlpaadoor", sum := "fc014763abea501c60e5fdfdb7e135805db74c50e9498faa2806f31ed4daacd3", func := "pleacher/pleacherlaw.RelUniques", spec := "relUniques", inPlace := ["internal/abi.NoEscape"], unfollowed := true, recurses := true, named := ["unicode/utf8.first", "unicode/utf8.acceptRanges"], plainKeys := false, apart := false, laid := [("unicode/utf8.acceptRanges", laid_unicode_utf8_acceptRanges), ("unicode/utf8.first", laid_unicode_utf8_first)], narrowed := true }
def RelUniquesUptoSaid : Prop := relUniquesUptoRow.holds Tryd.pinned (OpenSpec.upto relUniquesSpec)

/-- 'pleacherlaw.RelExcepts', WHERE WHAT IT READS IS OF BULK AT MOST 1048576: true; the input reads as it did. -/
def relExceptsUptoRow : OpenClaim := { program := "ytafbojmnmadlpaadoor", sum := "fc014763abea501c60e5fdfdb7e135805db74c50e9498faa2806f31ed4daacd3", func := "pleacher/pleacherlaw.RelExcepts", spec := "relExcepts", inPlace := ["internal/abi.NoEscape"], unfollowed := true, recurses := true, named := ["unicode/utf8.first", "unicode/utf8.acceptRanges"], plainKeys := false, apart := false, laid := [("unicode/utf8.acceptRanges", laid_unicode_utf8_acceptRanges), ("unicode/utf8.first", laid_unicode_utf8_first)], narrowed := true }
def RelExceptsUptoSaid : Prop := relExceptsUptoRow.holds Tryd.pinned (OpenSpec.upto relExceptsSpec)

/-- 'pleacherlaw.XmlEscapes', WHERE WHAT IT READS IS OF BULK AT MOST 1048576: true; the input reads as it did. -/
def xmlEscapesUptoRow : OpenClaim := { program := "ytafbojmnmadlpaadoor", sum := "fc014763abea501c60e5fdfdb7e135805db74c50e9498faa2806f31ed4daacd3", func := "pleacher/pleacherlaw.XmlEscapes", spec := "xmlEscapes", inPlace := ["internal/bytealg.CountString", "internal/bytealg.IndexByteString", "internal/bytealg.IndexString", "internal/abi.NoEscape", "internal/bytealg.MakeNoZero"], named := ["pleacher/xml.escapes", "internal/bytealg.MaxLen", "unicode/utf8.first", "unicode/utf8.acceptRanges"], plainKeys := false, apart := false, laid := [("unicode/utf8.acceptRanges", laid_unicode_utf8_acceptRanges), ("pleacher/xml.escapes", laid_pleacher_xml_escapes), ("unicode/utf8.first", laid_unicode_utf8_first)], narrowed := true }
def XmlEscapesUptoSaid : Prop := xmlEscapesUptoRow.holds Tryd.pinned (OpenSpec.upto xmlEscapesSpec)

/-- 'pleacherlaw.XmlChecks', WHERE WHAT IT READS IS OF BULK AT MOST 1048576: true; the input reads as it did. -/
def xmlChecksUptoRow : OpenClaim := { program := "ytafbojmnmadlpaadoor", sum := "fc014763abea501c60e5fdfdb7e135805db74c50e9498faa2806f31ed4daacd3", func := "pleacher/pleacherlaw.XmlChecks", spec := "xmlChecks", inPlace := ["internal/bytealg.IndexByteString", "internal/bytealg.IndexString"], named := ["unicode/utf8.first", "unicode/utf8.acceptRanges", "internal/bytealg.MaxLen"], plainKeys := false, apart := false, laid := [("unicode/utf8.acceptRanges", laid_unicode_utf8_acceptRanges), ("unicode/utf8.first", laid_unicode_utf8_first)], narrowed := true }
def XmlChecksUptoSaid : Prop := xmlChecksUptoRow.holds Tryd.pinned (OpenSpec.upto xmlChecksSpec)

/-- 'pleacherlaw.StoreShreds', WHERE WHAT IT READS IS OF BULK AT MOST 1048576: true; the input reads as it did. -/
def storeShredsUptoRow : OpenClaim := { program := "ytafbojmnmadlpaadoor", sum := "fc014763abea501c60e5fdfdb7e135805db74c50e9498faa2806f31ed4daacd3", func := "pleacher/pleacherlaw.StoreShreds", spec := "storeShreds", inPlace := ["internal/bytealg.IndexByteString", "internal/bytealg.IndexString"], named := ["unicode/utf8.first", "unicode/utf8.acceptRanges", "internal/bytealg.MaxLen"], plainKeys := false, apart := false, laid := [("unicode/utf8.acceptRanges", laid_unicode_utf8_acceptRanges), ("unicode/utf8.first", laid_unicode_utf8_first)], narrowed := true }
def StoreShredsUptoSaid : Prop := storeShredsUptoRow.holds Tryd.pinned (OpenSpec.upto storeShredsSpec)

/-- 'pleacherlaw.RelSorts', WHERE WHAT IT READS IS OF BULK AT MOST 1048576: true; the input reads as it did. -/
def relSortsUptoRow : OpenClaim := { program := "ytafbojmnmadlpaadoor", sum := "fc014763abea501c60e5fdfdb7e135805db74c50e9498faa2806f31ed4daacd3", func := "pleacher/pleacherlaw.RelSorts", spec := "relSorts", inPlace := ["internal/bytealg.abigen_runtime_cmpstring"], unfollowed := true, recurses := true, named := ["unicode/utf8.first", "unicode/utf8.acceptRanges"], plainKeys := false, apart := false, laid := [("unicode/utf8.acceptRanges", laid_unicode_utf8_acceptRanges), ("unicode/utf8.first", laid_unicode_utf8_first)], narrowed := true }
def RelSortsUptoSaid : Prop := relSortsUptoRow.holds Tryd.pinned (OpenSpec.upto relSortsSpec)

/-- 'pleacherlaw.RelRanks', WHERE WHAT IT READS IS OF BULK AT MOST 1048576: true; the input reads as it did. -/
def relRanksUptoRow : OpenClaim := { program := "ytafbojmnmadlpaadoor", sum := "fc014763abea501c60e5fdfdb7e135805db74c50e9498faa2806f31ed4daacd3", func := "pleacher/pleacherlaw.RelRanks", spec := "relRanks", inPlace := ["internal/bytealg.abigen_runtime_cmpstring", "internal/abi.NoEscape"], unfollowed := true, recurses := true, named := ["unicode/utf8.first", "unicode/utf8.acceptRanges"], plainKeys := false, apart := false, laid := [("unicode/utf8.acceptRanges", laid_unicode_utf8_acceptRanges), ("unicode/utf8.first", laid_unicode_utf8_first)], narrowed := true }
def RelRanksUptoSaid : Prop := relRanksUptoRow.holds Tryd.pinned (OpenSpec.upto relRanksSpec)

/-- 'pleacherlaw.XmlShows', WHERE WHAT IT READS IS OF BULK AT MOST 1048576: true; the input reads as it did. -/
def xmlShowsUptoRow : OpenClaim := { program := "ytafbojmnmadlpaadoor", sum := "fc014763abea501c60e5fdfdb7e135805db74c50e9498faa2806f31ed4daacd3", func := "pleacher/pleacherlaw.XmlShows", spec := "xmlShows", inPlace := ["internal/bytealg.IndexByteString", "internal/bytealg.IndexString", "internal/abi.NoEscape", "internal/bytealg.CountString", "internal/bytealg.MakeNoZero"], named := ["unicode/utf8.first", "unicode/utf8.acceptRanges", "internal/bytealg.MaxLen", "pleacher/xml.escapes"], plainKeys := false, apart := false, laid := [("unicode/utf8.acceptRanges", laid_unicode_utf8_acceptRanges), ("pleacher/xml.escapes", laid_pleacher_xml_escapes), ("unicode/utf8.first", laid_unicode_utf8_first)], narrowed := true }
def XmlShowsUptoSaid : Prop := xmlShowsUptoRow.holds Tryd.pinned (OpenSpec.upto xmlShowsSpec)

/-- 'pleacherlaw.XmlParses', WHERE WHAT IT READS IS OF BULK AT MOST 1048576: true; the input reads as it did. -/
def xmlParsesUptoRow : OpenClaim := { program := "ytafbojmnmadlpaadoor", sum := "fc014763abea501c60e5fdfdb7e135805db74c50e9498faa2806f31ed4daacd3", func := "pleacher/pleacherlaw.XmlParses", spec := "xmlParses", inPlace := ["internal/bytealg.IndexByteString", "internal/bytealg.IndexString", "internal/abi.NoEscape"], named := ["pleacher/xml.escapes", "internal/bytealg.MaxLen", "unicode/utf8.first", "unicode/utf8.acceptRanges"], plainKeys := false, apart := false, laid := [("unicode/utf8.acceptRanges", laid_unicode_utf8_acceptRanges), ("pleacher/xml.escapes", laid_pleacher_xml_escapes), ("unicode/utf8.first", laid_unicode_utf8_first)], narrowed := true }
def XmlParsesUptoSaid : Prop := xmlParsesUptoRow.holds Tryd.pinned (OpenSpec.upto xmlParsesSpec)

end Rows
end Go.Proofs.YtafbojmnmadlpaaDoor
