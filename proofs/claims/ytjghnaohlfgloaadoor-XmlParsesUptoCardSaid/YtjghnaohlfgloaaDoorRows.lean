/-
  NARROWER THAN 'FOR EVERY INPUT', by the rows' own cells (each row's printed sentence says how): CoreChecks: loops, laid · RelSorts: laid · RelRanks: laid · XmlParses: laid · StairWalks: laid.
  DERIVED. THE GIVEN ROWS OF THIS SEAT. 5 by the template 'for every input the law returns true; each argument reads behind the call as it read before'; 0 by the template 'total and deterministic' (their statements: YtjghnaohlfgloaaDoorTotals.lean).
  GIVEN WITH THE SEED: the statements are not yours to turn. If you find one false, say at which input.
  Laid BY PROGRAM, IN A SANDBOX (cutbox-rows.mjs): the forced cells as the released guide's own fill.sh prints them over the translation c492b1465a3b21ef… (all of the seat's roots in one cut). By AI agents, Wed Nov 11 2026. No macro, syntax, notation, axiom, sorry.
-/
import Derived.Test.YtjghnaohlfgloaaDoorChecked
import GoSem.PinnedTables
import GoSem.Claim
import GoSem.ClaimJoined
import GoSem.ClaimMapViews
import Derived.JoinedTies
import Derived.KernelRfl
namespace Go.Proofs.YtjghnaohlfgloaaDoor
/- THE CELL 'sum', in the pinned program and in every row, IS THE sha256 OF THE DUMP (.gsa) THAT YtjghnaohlfgloaaDoorProg.lean LOADS. Nothing in Lean hashes anything: it is a label: what it is worth is what the hold of that sum in a sandbox is worth. -/
noncomputable def Tryd.pinned : Pinned := { name := "ytjghnaohlfgloaadoor", sum := "c492b1465a3b21ef3cce0e2fbc8ae95860b8a61fd4eb2427c6575c9e5e010a55", checked := Tryd.checked }
namespace Rows
def none {H : Type} : Left H := { results := [], args := [] }

/- WHAT THE LISTED PACKAGE-LEVEL VARIABLES READ AS WHEN THE CALL BEGINS. Each datum BY PROGRAM (the guide's laid-datum.mjs) off the statement by which the dump's own 'gosem.cut.vars' lays the variable. In a bare row this is a premise. The card (YtjghnaohlfgloaaDoorCards.lean) ties it to the program's text. -/
def laid_unicode_utf8_acceptRanges {H : Type} : DataW H := .agg [.agg [.lit (.int .u8 128), .lit (.int .u8 191)], .agg [.lit (.int .u8 160), .lit (.int .u8 191)], .agg [.lit (.int .u8 128), .lit (.int .u8 159)], .agg [.lit (.int .u8 144), .lit (.int .u8 191)], .agg [.lit (.int .u8 128), .lit (.int .u8 143)], .agg [.lit (.int .u8 0), .lit (.int .u8 0)], .agg [.lit (.int .u8 0), .lit (.int .u8 0)], .agg [.lit (.int .u8 0), .lit (.int .u8 0)], .agg [.lit (.int .u8 0), .lit (.int .u8 0)], .agg [.lit (.int .u8 0), .lit (.int .u8 0)], .agg [.lit (.int .u8 0), .lit (.int .u8 0)], .agg [.lit (.int .u8 0), .lit (.int .u8 0)], .agg [.lit (.int .u8 0), .lit (.int .u8 0)], .agg [.lit (.int .u8 0), .lit (.int .u8 0)], .agg [.lit (.int .u8 0), .lit (.int .u8 0)], .agg [.lit (.int .u8 0), .lit (.int .u8 0)]]
def laid_pleacher_core_arity {H : Type} : DataW H := .map [(.string [33, 61], .lit (.int .i64 2)), (.string [42], .lit (.int .i64 2)), (.string [43], .lit (.int .i64 2)), (.string [45], .lit (.int .i64 2)), (.string [60], .lit (.int .i64 2)), (.string [60, 60], .lit (.int .i64 2)), (.string [60, 61], .lit (.int .i64 2)), (.string [61], .lit (.int .i64 2)), (.string [62], .lit (.int .i64 2)), (.string [62, 61], .lit (.int .i64 2)), (.string [62, 62], .lit (.int .i64 2)), (.string [97, 110, 100], .lit (.int .i64 2)), (.string [98, 111, 111, 108, 101, 97, 110], .lit (.int .i64 1)), (.string [99, 111, 110, 99, 97, 116], .lit (.int .i64 2)), (.string [99, 111, 110, 116, 97, 105, 110, 115], .lit (.int .i64 2)), (.string [99, 111, 117, 110, 116], .lit (.int .i64 1)), (.string [100, 97, 116, 97], .lit (.int .i64 1)), (.string [100, 100, 111], .lit (.int .i64 1)), (.string [100, 105, 115, 116, 105, 110, 99, 116], .lit (.int .i64 1)), (.string [100, 105, 118], .lit (.int .i64 2)), (.string [101, 109, 112, 116, 121], .lit (.int .i64 1)), (.string [101, 120, 99, 101, 112, 116], .lit (.int .i64 2)), (.string [101, 120, 105, 115, 116, 115], .lit (.int .i64 1)), (.string [104, 111, 108, 100, 115], .lit (.int .i64 2)), (.string [105, 110, 116, 101, 103, 101, 114], .lit (.int .i64 1)), (.string [105, 110, 116, 101, 114, 115, 101, 99, 116], .lit (.int .i64 2)), (.string [105, 115], .lit (.int .i64 2)), (.string [108, 101, 110, 103, 116, 104], .lit (.int .i64 1)), (.string [109, 97, 120], .lit (.int .i64 1)), (.string [109, 105, 110], .lit (.int .i64 1)), (.string [109, 111, 100], .lit (.int .i64 2)), (.string [110, 97, 109, 101], .lit (.int .i64 1)), (.string [110, 101, 103], .lit (.int .i64 1)), (.string [110, 111, 116], .lit (.int .i64 1)), (.string [111, 114], .lit (.int .i64 2)), (.string [114, 101, 118, 101, 114, 115, 101], .lit (.int .i64 1)), (.string [115, 116, 97, 114, 116, 115], .lit (.int .i64 2)), (.string [115, 116, 114, 105, 110, 103], .lit (.int .i64 1)), (.string [115, 117, 98, 115, 116, 114, 105, 110, 103], .lit (.int .i64 3)), (.string [115, 117, 109], .lit (.int .i64 1)), (.string [116, 111], .lit (.int .i64 2)), (.string [117, 110, 105, 111, 110], .lit (.int .i64 2))]
/-- One of Go's own tables, pinned by name: the form's constant. -/
def laid_unicode_utf8_first : DataW Unit := Go.Pinned.utf8First
def laid_pleacher_xml_escapes {H : Type} : DataW H := .agg [.agg [.lit (.string [38]), .lit (.string [38, 97, 109, 112, 59])], .agg [.lit (.string [60]), .lit (.string [38, 108, 116, 59])], .agg [.lit (.string [62]), .lit (.string [38, 103, 116, 59])], .agg [.lit (.string [34]), .lit (.string [38, 113, 117, 111, 116, 59])]]

/-- 'pleacherlaw.CoreChecks': WHATEVER THE INPUT: true; the input reads as it did. -/
def coreChecksSpec : ChangeSpec := { name := "coreChecks", fn := fun _ => fun
  | [d] => { results := [.lit (.bool true)], args := [d] }
  | _ => none }
def coreChecksRow : OpenClaim := { program := "ytjghnaohlfgloaadoor", sum := "c492b1465a3b21ef3cce0e2fbc8ae95860b8a61fd4eb2427c6575c9e5e010a55", func := "pleacher/pleacherlaw.CoreChecks", spec := "coreChecks", recurses := true, named := ["pleacher/core.arity", "unicode/utf8.first", "unicode/utf8.acceptRanges"], loops := true, apart := false, laid := [("unicode/utf8.acceptRanges", laid_unicode_utf8_acceptRanges), ("pleacher/core.arity", laid_pleacher_core_arity), ("unicode/utf8.first", laid_unicode_utf8_first)] }
def CoreChecksSaid : Prop := coreChecksRow.holds Tryd.pinned (OpenSpec.ofChange coreChecksSpec)

/-- ITS FALSE NEIGHBOUR: 'it returns false'. Refute it at one input. -/
def coreChecksWrong : ChangeSpec := { name := "coreChecks", fn := fun _ => fun
  | [d] => { results := [.lit (.bool false)], args := [d] }
  | _ => none }
def CoreChecksWrongFalsely : Prop := coreChecksRow.holds Tryd.pinned (OpenSpec.ofChange coreChecksWrong)

/-- 'pleacherlaw.RelSorts': WHATEVER THE INPUT: true; the input reads as it did. -/
def relSortsSpec : ChangeSpec := { name := "relSorts", fn := fun _ => fun
  | [d1, d2] => { results := [.lit (.bool true)], args := [d1, d2] }
  | _ => none }
def relSortsRow : OpenClaim := { program := "ytjghnaohlfgloaadoor", sum := "c492b1465a3b21ef3cce0e2fbc8ae95860b8a61fd4eb2427c6575c9e5e010a55", func := "pleacher/pleacherlaw.RelSorts", spec := "relSorts", inPlace := ["internal/bytealg.abigen_runtime_cmpstring"], unfollowed := true, recurses := true, named := ["unicode/utf8.first", "unicode/utf8.acceptRanges"], apart := false, laid := [("unicode/utf8.acceptRanges", laid_unicode_utf8_acceptRanges), ("unicode/utf8.first", laid_unicode_utf8_first)] }
def RelSortsSaid : Prop := relSortsRow.holds Tryd.pinned (OpenSpec.ofChange relSortsSpec)

/-- ITS FALSE NEIGHBOUR: 'it returns false'. Refute it at one input. -/
def relSortsWrong : ChangeSpec := { name := "relSorts", fn := fun _ => fun
  | [d1, d2] => { results := [.lit (.bool false)], args := [d1, d2] }
  | _ => none }
def RelSortsWrongFalsely : Prop := relSortsRow.holds Tryd.pinned (OpenSpec.ofChange relSortsWrong)

/-- 'pleacherlaw.RelRanks': WHATEVER THE INPUT: true; the input reads as it did. -/
def relRanksSpec : ChangeSpec := { name := "relRanks", fn := fun _ => fun
  | [d1, d2, d3, d4] => { results := [.lit (.bool true)], args := [d1, d2, d3, d4] }
  | _ => none }
def relRanksRow : OpenClaim := { program := "ytjghnaohlfgloaadoor", sum := "c492b1465a3b21ef3cce0e2fbc8ae95860b8a61fd4eb2427c6575c9e5e010a55", func := "pleacher/pleacherlaw.RelRanks", spec := "relRanks", inPlace := ["internal/bytealg.abigen_runtime_cmpstring", "internal/abi.NoEscape"], unfollowed := true, recurses := true, named := ["unicode/utf8.first", "unicode/utf8.acceptRanges"], apart := false, laid := [("unicode/utf8.acceptRanges", laid_unicode_utf8_acceptRanges), ("unicode/utf8.first", laid_unicode_utf8_first)] }
def RelRanksSaid : Prop := relRanksRow.holds Tryd.pinned (OpenSpec.ofChange relRanksSpec)

/-- ITS FALSE NEIGHBOUR: 'it returns false'. Refute it at one input. -/
def relRanksWrong : ChangeSpec := { name := "relRanks", fn := fun _ => fun
  | [d1, d2, d3, d4] => { results := [.lit (.bool false)], args := [d1, d2, d3, d4] }
  | _ => none }
def RelRanksWrongFalsely : Prop := relRanksRow.holds Tryd.pinned (OpenSpec.ofChange relRanksWrong)

/-- 'pleacherlaw.XmlParses': WHATEVER THE INPUT: true; the input reads as it did. -/
def xmlParsesSpec : ChangeSpec := { name := "xmlParses", fn := fun _ => fun
  | [d] => { results := [.lit (.bool true)], args := [d] }
  | _ => none }
def xmlParsesRow : OpenClaim := { program := "ytjghnaohlfgloaadoor", sum := "c492b1465a3b21ef3cce0e2fbc8ae95860b8a61fd4eb2427c6575c9e5e010a55", func := "pleacher/pleacherlaw.XmlParses", spec := "xmlParses", inPlace := ["internal/bytealg.IndexByteString", "internal/bytealg.IndexString", "internal/abi.NoEscape"], named := ["pleacher/xml.escapes", "internal/bytealg.MaxLen", "unicode/utf8.first", "unicode/utf8.acceptRanges"], apart := false, laid := [("unicode/utf8.acceptRanges", laid_unicode_utf8_acceptRanges), ("pleacher/xml.escapes", laid_pleacher_xml_escapes), ("unicode/utf8.first", laid_unicode_utf8_first)] }
def XmlParsesSaid : Prop := xmlParsesRow.holds Tryd.pinned (OpenSpec.ofChange xmlParsesSpec)

/-- ITS FALSE NEIGHBOUR: 'it returns false'. Refute it at one input. -/
def xmlParsesWrong : ChangeSpec := { name := "xmlParses", fn := fun _ => fun
  | [d] => { results := [.lit (.bool false)], args := [d] }
  | _ => none }
def XmlParsesWrongFalsely : Prop := xmlParsesRow.holds Tryd.pinned (OpenSpec.ofChange xmlParsesWrong)

/-- 'pleacherlaw.StairWalks': WHATEVER THE INPUT: true; the input reads as it did. -/
def stairWalksSpec : ChangeSpec := { name := "stairWalks", fn := fun _ => fun
  | [d1, d2, d3, d4] => { results := [.lit (.bool true)], args := [d1, d2, d3, d4] }
  | _ => none }
def stairWalksRow : OpenClaim := { program := "ytjghnaohlfgloaadoor", sum := "c492b1465a3b21ef3cce0e2fbc8ae95860b8a61fd4eb2427c6575c9e5e010a55", func := "pleacher/pleacherlaw.StairWalks", spec := "stairWalks", unfollowed := true, recurses := true, named := ["unicode/utf8.first", "unicode/utf8.acceptRanges"], apart := false, laid := [("unicode/utf8.acceptRanges", laid_unicode_utf8_acceptRanges), ("unicode/utf8.first", laid_unicode_utf8_first)] }
def StairWalksSaid : Prop := stairWalksRow.holds Tryd.pinned (OpenSpec.ofChange stairWalksSpec)

/-- ITS FALSE NEIGHBOUR: 'it returns false'. Refute it at one input. -/
def stairWalksWrong : ChangeSpec := { name := "stairWalks", fn := fun _ => fun
  | [d1, d2, d3, d4] => { results := [.lit (.bool false)], args := [d1, d2, d3, d4] }
  | _ => none }
def StairWalksWrongFalsely : Prop := stairWalksRow.holds Tryd.pinned (OpenSpec.ofChange stairWalksWrong)

/- THE SECOND FORM. 'bulk': how many values and letters a reading holds, each counted each time it is reached (what is shared counts as often as it is met; a slice's spare places count too). A statement '..UptoSaid' is the law's where the arguments, and the package variables that the reading takes, are together of bulk at most 1048576: NARROWER than '..Said'. Prove '..Said' where nothing that the law and all that it calls make is longer than what came in: it says more and counts as full. Else prove '..UptoSaid'. A law counts once. -/
mutual
def uptoBulk {H : Type} : DataW H → Nat
  | .lit (.string bytes) => bytes.length + 1
  | .lit _ => 1
  | .nil => 1
  | .ptr d => uptoBulk d + 1
  | .slice elems spare => uptoBulkAll elems + uptoBulkAll spare + 1
  | .agg parts => uptoBulkAll parts + 1
  | .iface _ d => uptoBulk d + 1
  | .map entries => uptoBulkEntries entries + 1
  | .held _ => 1
def uptoBulkAll {H : Type} : List (DataW H) → Nat
  | [] => 0
  | d :: r => uptoBulk d + uptoBulkAll r
def uptoBulkEntries {H : Type} : List (Lit × DataW H) → Nat
  | [] => 0
  | x :: r => uptoBulkEntry x + uptoBulkEntries r
def uptoBulkEntry {H : Type} : Lit × DataW H → Nat
  | (.string bytes, d) => bytes.length + uptoBulk d + 1
  | (_, d) => uptoBulk d + 1
 end
def uptoSmall : (H : Type) → List (DataW H) → Bool := fun _ ds => decide (uptoBulkAll ds ≤ 1048576)
def OpenSpec.upto (s : _root_.Go.ChangeSpec) : _root_.Go.OpenSpec := { _root_.Go.OpenSpec.ofChange s with cond := some uptoSmall }

/-- 'pleacherlaw.CoreChecks', WHERE WHAT IT READS IS OF BULK AT MOST 1048576: true; the input reads as it did. -/
def coreChecksUptoRow : OpenClaim := { program := "ytjghnaohlfgloaadoor", sum := "c492b1465a3b21ef3cce0e2fbc8ae95860b8a61fd4eb2427c6575c9e5e010a55", func := "pleacher/pleacherlaw.CoreChecks", spec := "coreChecks", recurses := true, named := ["pleacher/core.arity", "unicode/utf8.first", "unicode/utf8.acceptRanges"], loops := true, apart := false, laid := [("unicode/utf8.acceptRanges", laid_unicode_utf8_acceptRanges), ("pleacher/core.arity", laid_pleacher_core_arity), ("unicode/utf8.first", laid_unicode_utf8_first)], narrowed := true }
def CoreChecksUptoSaid : Prop := coreChecksUptoRow.holds Tryd.pinned (OpenSpec.upto coreChecksSpec)

/-- 'pleacherlaw.RelSorts', WHERE WHAT IT READS IS OF BULK AT MOST 1048576: true; the input reads as it did. -/
def relSortsUptoRow : OpenClaim := { program := "ytjghnaohlfgloaadoor", sum := "c492b1465a3b21ef3cce0e2fbc8ae95860b8a61fd4eb2427c6575c9e5e010a55", func := "pleacher/pleacherlaw.RelSorts", spec := "relSorts", inPlace := ["internal/bytealg.abigen_runtime_cmpstring"], unfollowed := true, recurses := true, named := ["unicode/utf8.first", "unicode/utf8.acceptRanges"], apart := false, laid := [("unicode/utf8.acceptRanges", laid_unicode_utf8_acceptRanges), ("unicode/utf8.first", laid_unicode_utf8_first)], narrowed := true }
def RelSortsUptoSaid : Prop := relSortsUptoRow.holds Tryd.pinned (OpenSpec.upto relSortsSpec)

/-- 'pleacherlaw.RelRanks', WHERE WHAT IT READS IS OF BULK AT MOST 1048576: true; the input reads as it did. -/
def relRanksUptoRow : OpenClaim := { program := "ytjghnaohlfgloaadoor", sum := "c492b1465a3b21ef3cce0e2fbc8ae95860b8a61fd4eb2427c6575c9e5e010a55", func := "pleacher/pleacherlaw.RelRanks", spec := "relRanks", inPlace := ["internal/bytealg.abigen_runtime_cmpstring", "internal/abi.NoEscape"], unfollowed := true, recurses := true, named := ["unicode/utf8.first", "unicode/utf8.acceptRanges"], apart := false, laid := [("unicode/utf8.acceptRanges", laid_unicode_utf8_acceptRanges), ("unicode/utf8.first", laid_unicode_utf8_first)], narrowed := true }
def RelRanksUptoSaid : Prop := relRanksUptoRow.holds Tryd.pinned (OpenSpec.upto relRanksSpec)

/-- 'pleacherlaw.XmlParses', WHERE WHAT IT READS IS OF BULK AT MOST 1048576: true; the input reads as it did. -/
def xmlParsesUptoRow : OpenClaim := { program := "ytjghnaohlfgloaadoor", sum := "c492b1465a3b21ef3cce0e2fbc8ae95860b8a61fd4eb2427c6575c9e5e010a55", func := "pleacher/pleacherlaw.XmlParses", spec := "xmlParses", inPlace := ["internal/bytealg.IndexByteString", "internal/bytealg.IndexString", "internal/abi.NoEscape"], named := ["pleacher/xml.escapes", "internal/bytealg.MaxLen", "unicode/utf8.first", "unicode/utf8.acceptRanges"], apart := false, laid := [("unicode/utf8.acceptRanges", laid_unicode_utf8_acceptRanges), ("pleacher/xml.escapes", laid_pleacher_xml_escapes), ("unicode/utf8.first", laid_unicode_utf8_first)], narrowed := true }
def XmlParsesUptoSaid : Prop := xmlParsesUptoRow.holds Tryd.pinned (OpenSpec.upto xmlParsesSpec)

/-- 'pleacherlaw.StairWalks', WHERE WHAT IT READS IS OF BULK AT MOST 1048576: true; the input reads as it did. -/
def stairWalksUptoRow : OpenClaim := { program := "ytjghnaohlfgloaadoor", sum := "c492b1465a3b21ef3cce0e2fbc8ae95860b8a61fd4eb2427c6575c9e5e010a55", func := "pleacher/pleacherlaw.StairWalks", spec := "stairWalks", unfollowed := true, recurses := true, named := ["unicode/utf8.first", "unicode/utf8.acceptRanges"], apart := false, laid := [("unicode/utf8.acceptRanges", laid_unicode_utf8_acceptRanges), ("unicode/utf8.first", laid_unicode_utf8_first)], narrowed := true }
def StairWalksUptoSaid : Prop := stairWalksUptoRow.holds Tryd.pinned (OpenSpec.upto stairWalksSpec)

end Rows
end Go.Proofs.YtjghnaohlfgloaaDoor
