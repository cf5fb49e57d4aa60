/-
  NARROWER THAN 'FOR EVERY INPUT', by the rows' own cells (each row's printed sentence says how): XmlTexts: laid · RelItems: laid · StoreChecks: laid · RelChecks: laid · StoreEvents: laid · StoreTexts: laid · RelSelects: laid · ReadTokens: laid.
  DERIVED. THE GIVEN ROWS OF THIS SEAT. 8 by the template 'for every input the law returns true; each argument reads behind the call as it read before'; 0 by the template 'total and deterministic' (their statements: YtmalccaijjcepaaDoorTotals.lean).
  GIVEN WITH THE SEED: the statements are not yours to turn. If you find one false, say at which input.
  Laid BY PROGRAM, IN A SANDBOX (cutbox-rows.mjs): the forced cells as the released guide's own fill.sh prints them over the translation 18957979b3514e34… (all of the seat's roots in one cut). By AI agents, Wed Nov 11 2026. No macro, syntax, notation, axiom, sorry.
-/
import Derived.Test.YtmalccaijjcepaaDoorChecked
import GoSem.PinnedTables
import GoSem.Claim
import GoSem.ClaimJoined
import GoSem.ClaimMapViews
import Derived.JoinedTies
import Derived.KernelRfl
namespace Go.Proofs.YtmalccaijjcepaaDoor
/- THE CELL 'sum', in the pinned program and in every row, IS THE sha256 OF THE DUMP (.gsa) THAT YtmalccaijjcepaaDoorProg.lean LOADS. Nothing in Lean hashes anything: it is a label: what it is worth is what the hold of that sum in a sandbox is worth. -/
noncomputable def Tryd.pinned : Pinned := { name := "ytmalccaijjcepaadoor", sum := "18957979b3514e34296ae259b22b898710a2cbda3e052c6cd6e09721456aee53", checked := Tryd.checked }
namespace Rows
def none {H : Type} : Left H := { results := [], args := [] }

/- WHAT THE LISTED PACKAGE-LEVEL VARIABLES READ AS WHEN THE CALL BEGINS. Each datum BY PROGRAM (the guide's laid-datum.mjs) off the statement by which the dump's own 'gosem.cut.vars' lays the variable. In a bare row this is a premise. The card (YtmalccaijjcepaaDoorCards.lean) ties it to the program's text. -/
def laid_unicode_utf8_acceptRanges {H : Type} : DataW H := .agg [.agg [.lit (.int .u8 128), .lit (.int .u8 191)], .agg [.lit (.int .u8 160), .lit (.int .u8 191)], .agg [.lit (.int .u8 128), .lit (.int .u8 159)], .agg [.lit (.int .u8 144), .lit (.int .u8 191)], .agg [.lit (.int .u8 128), .lit (.int .u8 143)], .agg [.lit (.int .u8 0), .lit (.int .u8 0)], .agg [.lit (.int .u8 0), .lit (.int .u8 0)], .agg [.lit (.int .u8 0), .lit (.int .u8 0)], .agg [.lit (.int .u8 0), .lit (.int .u8 0)], .agg [.lit (.int .u8 0), .lit (.int .u8 0)], .agg [.lit (.int .u8 0), .lit (.int .u8 0)], .agg [.lit (.int .u8 0), .lit (.int .u8 0)], .agg [.lit (.int .u8 0), .lit (.int .u8 0)], .agg [.lit (.int .u8 0), .lit (.int .u8 0)], .agg [.lit (.int .u8 0), .lit (.int .u8 0)], .agg [.lit (.int .u8 0), .lit (.int .u8 0)]]
/-- One of Go's own tables, pinned by name: the form's constant. -/
def laid_unicode_utf8_first : DataW Unit := Go.Pinned.utf8First
def laid_pleacher_read_marks {H : Type} : DataW H := .agg [.lit (.string [58, 58]), .lit (.string [47, 47]), .lit (.string [46, 46]), .lit (.string [58, 61]), .lit (.string [33, 61]), .lit (.string [60, 61]), .lit (.string [62, 61]), .lit (.string [60, 60]), .lit (.string [62, 62]), .lit (.string [47]), .lit (.string [40]), .lit (.string [41]), .lit (.string [91]), .lit (.string [93]), .lit (.string [123]), .lit (.string [125]), .lit (.string [44]), .lit (.string [46]), .lit (.string [64]), .lit (.string [42]), .lit (.string [61]), .lit (.string [60]), .lit (.string [62]), .lit (.string [43]), .lit (.string [45]), .lit (.string [124])]

/-- 'pleacherlaw.XmlTexts': WHATEVER THE INPUT: true; the input reads as it did. -/
def xmlTextsSpec : ChangeSpec := { name := "xmlTexts", fn := fun _ => fun
  | [d] => { results := [.lit (.bool true)], args := [d] }
  | _ => none }
def xmlTextsRow : OpenClaim := { program := "ytmalccaijjcepaadoor", sum := "18957979b3514e34296ae259b22b898710a2cbda3e052c6cd6e09721456aee53", func := "pleacher/pleacherlaw.XmlTexts", spec := "xmlTexts", named := ["unicode/utf8.first", "unicode/utf8.acceptRanges"], apart := false, laid := [("unicode/utf8.acceptRanges", laid_unicode_utf8_acceptRanges), ("unicode/utf8.first", laid_unicode_utf8_first)] }
def XmlTextsSaid : Prop := xmlTextsRow.holds Tryd.pinned (OpenSpec.ofChange xmlTextsSpec)

/-- ITS FALSE NEIGHBOUR: 'it returns false'. Refute it at one input. -/
def xmlTextsWrong : ChangeSpec := { name := "xmlTexts", fn := fun _ => fun
  | [d] => { results := [.lit (.bool false)], args := [d] }
  | _ => none }
def XmlTextsWrongFalsely : Prop := xmlTextsRow.holds Tryd.pinned (OpenSpec.ofChange xmlTextsWrong)

/-- 'pleacherlaw.RelItems': WHATEVER THE INPUT: true; the input reads as it did. -/
def relItemsSpec : ChangeSpec := { name := "relItems", fn := fun _ => fun
  | [d] => { results := [.lit (.bool true)], args := [d] }
  | _ => none }
def relItemsRow : OpenClaim := { program := "ytmalccaijjcepaadoor", sum := "18957979b3514e34296ae259b22b898710a2cbda3e052c6cd6e09721456aee53", func := "pleacher/pleacherlaw.RelItems", spec := "relItems", named := ["unicode/utf8.first", "unicode/utf8.acceptRanges"], apart := false, laid := [("unicode/utf8.acceptRanges", laid_unicode_utf8_acceptRanges), ("unicode/utf8.first", laid_unicode_utf8_first)] }
def RelItemsSaid : Prop := relItemsRow.holds Tryd.pinned (OpenSpec.ofChange relItemsSpec)

/-- ITS FALSE NEIGHBOUR: 'it returns false'. Refute it at one input. -/
def relItemsWrong : ChangeSpec := { name := "relItems", fn := fun _ => fun
  | [d] => { results := [.lit (.bool false)], args := [d] }
  | _ => none }
def RelItemsWrongFalsely : Prop := relItemsRow.holds Tryd.pinned (OpenSpec.ofChange relItemsWrong)

/-- 'pleacherlaw.StoreChecks': WHATEVER THE INPUT: true; the input reads as it did. -/
def storeChecksSpec : ChangeSpec := { name := "storeChecks", fn := fun _ => fun
  | [d] => { results := [.lit (.bool true)], args := [d] }
  | _ => none }
def storeChecksRow : OpenClaim := { program := "ytmalccaijjcepaadoor", sum := "18957979b3514e34296ae259b22b898710a2cbda3e052c6cd6e09721456aee53", func := "pleacher/pleacherlaw.StoreChecks", spec := "storeChecks", named := ["unicode/utf8.first", "unicode/utf8.acceptRanges"], apart := false, laid := [("unicode/utf8.acceptRanges", laid_unicode_utf8_acceptRanges), ("unicode/utf8.first", laid_unicode_utf8_first)] }
def StoreChecksSaid : Prop := storeChecksRow.holds Tryd.pinned (OpenSpec.ofChange storeChecksSpec)

/-- ITS FALSE NEIGHBOUR: 'it returns false'. Refute it at one input. -/
def storeChecksWrong : ChangeSpec := { name := "storeChecks", fn := fun _ => fun
  | [d] => { results := [.lit (.bool false)], args := [d] }
  | _ => none }
def StoreChecksWrongFalsely : Prop := storeChecksRow.holds Tryd.pinned (OpenSpec.ofChange storeChecksWrong)

/-- 'pleacherlaw.RelChecks': WHATEVER THE INPUT: true; the input reads as it did. -/
def relChecksSpec : ChangeSpec := { name := "relChecks", fn := fun _ => fun
  | [d] => { results := [.lit (.bool true)], args := [d] }
  | _ => none }
def relChecksRow : OpenClaim := { program := "ytmalccaijjcepaadoor", sum := "18957979b3514e34296ae259b22b898710a2cbda3e052c6cd6e09721456aee53", func := "pleacher/pleacherlaw.RelChecks", spec := "relChecks", unfollowed := true, recurses := true, named := ["unicode/utf8.first", "unicode/utf8.acceptRanges"], apart := false, laid := [("unicode/utf8.acceptRanges", laid_unicode_utf8_acceptRanges), ("unicode/utf8.first", laid_unicode_utf8_first)] }
def RelChecksSaid : Prop := relChecksRow.holds Tryd.pinned (OpenSpec.ofChange relChecksSpec)

/-- ITS FALSE NEIGHBOUR: 'it returns false'. Refute it at one input. -/
def relChecksWrong : ChangeSpec := { name := "relChecks", fn := fun _ => fun
  | [d] => { results := [.lit (.bool false)], args := [d] }
  | _ => none }
def RelChecksWrongFalsely : Prop := relChecksRow.holds Tryd.pinned (OpenSpec.ofChange relChecksWrong)

/-- 'pleacherlaw.StoreEvents': WHATEVER THE INPUT: true; the input reads as it did. -/
def storeEventsSpec : ChangeSpec := { name := "storeEvents", fn := fun _ => fun
  | [d1, d2] => { results := [.lit (.bool true)], args := [d1, d2] }
  | _ => none }
def storeEventsRow : OpenClaim := { program := "ytmalccaijjcepaadoor", sum := "18957979b3514e34296ae259b22b898710a2cbda3e052c6cd6e09721456aee53", func := "pleacher/pleacherlaw.StoreEvents", spec := "storeEvents", recurses := true, named := ["unicode/utf8.first", "unicode/utf8.acceptRanges"], apart := false, laid := [("unicode/utf8.acceptRanges", laid_unicode_utf8_acceptRanges), ("unicode/utf8.first", laid_unicode_utf8_first)] }
def StoreEventsSaid : Prop := storeEventsRow.holds Tryd.pinned (OpenSpec.ofChange storeEventsSpec)

/-- ITS FALSE NEIGHBOUR: 'it returns false'. Refute it at one input. -/
def storeEventsWrong : ChangeSpec := { name := "storeEvents", fn := fun _ => fun
  | [d1, d2] => { results := [.lit (.bool false)], args := [d1, d2] }
  | _ => none }
def StoreEventsWrongFalsely : Prop := storeEventsRow.holds Tryd.pinned (OpenSpec.ofChange storeEventsWrong)

/-- 'pleacherlaw.StoreTexts': WHATEVER THE INPUT: true; the input reads as it did. -/
def storeTextsSpec : ChangeSpec := { name := "storeTexts", fn := fun _ => fun
  | [d1, d2] => { results := [.lit (.bool true)], args := [d1, d2] }
  | _ => none }
def storeTextsRow : OpenClaim := { program := "ytmalccaijjcepaadoor", sum := "18957979b3514e34296ae259b22b898710a2cbda3e052c6cd6e09721456aee53", func := "pleacher/pleacherlaw.StoreTexts", spec := "storeTexts", inPlace := ["internal/abi.NoEscape"], named := ["unicode/utf8.first", "unicode/utf8.acceptRanges"], apart := false, laid := [("unicode/utf8.acceptRanges", laid_unicode_utf8_acceptRanges), ("unicode/utf8.first", laid_unicode_utf8_first)] }
def StoreTextsSaid : Prop := storeTextsRow.holds Tryd.pinned (OpenSpec.ofChange storeTextsSpec)

/-- ITS FALSE NEIGHBOUR: 'it returns false'. Refute it at one input. -/
def storeTextsWrong : ChangeSpec := { name := "storeTexts", fn := fun _ => fun
  | [d1, d2] => { results := [.lit (.bool false)], args := [d1, d2] }
  | _ => none }
def StoreTextsWrongFalsely : Prop := storeTextsRow.holds Tryd.pinned (OpenSpec.ofChange storeTextsWrong)

/-- 'pleacherlaw.RelSelects': WHATEVER THE INPUT: true; the input reads as it did. -/
def relSelectsSpec : ChangeSpec := { name := "relSelects", fn := fun _ => fun
  | [d1, d2] => { results := [.lit (.bool true)], args := [d1, d2] }
  | _ => none }
def relSelectsRow : OpenClaim := { program := "ytmalccaijjcepaadoor", sum := "18957979b3514e34296ae259b22b898710a2cbda3e052c6cd6e09721456aee53", func := "pleacher/pleacherlaw.RelSelects", spec := "relSelects", unfollowed := true, recurses := true, named := ["unicode/utf8.first", "unicode/utf8.acceptRanges"], apart := false, laid := [("unicode/utf8.acceptRanges", laid_unicode_utf8_acceptRanges), ("unicode/utf8.first", laid_unicode_utf8_first)] }
def RelSelectsSaid : Prop := relSelectsRow.holds Tryd.pinned (OpenSpec.ofChange relSelectsSpec)

/-- ITS FALSE NEIGHBOUR: 'it returns false'. Refute it at one input. -/
def relSelectsWrong : ChangeSpec := { name := "relSelects", fn := fun _ => fun
  | [d1, d2] => { results := [.lit (.bool false)], args := [d1, d2] }
  | _ => none }
def RelSelectsWrongFalsely : Prop := relSelectsRow.holds Tryd.pinned (OpenSpec.ofChange relSelectsWrong)

/-- 'pleacherlaw.ReadTokens': WHATEVER THE INPUT: true; the input reads as it did. -/
def readTokensSpec : ChangeSpec := { name := "readTokens", fn := fun _ => fun
  | [d] => { results := [.lit (.bool true)], args := [d] }
  | _ => none }
def readTokensRow : OpenClaim := { program := "ytmalccaijjcepaadoor", sum := "18957979b3514e34296ae259b22b898710a2cbda3e052c6cd6e09721456aee53", func := "pleacher/pleacherlaw.ReadTokens", spec := "readTokens", inPlace := ["internal/bytealg.IndexByteString", "internal/bytealg.IndexString"], named := ["pleacher/read.marks", "internal/bytealg.MaxLen", "unicode/utf8.first", "unicode/utf8.acceptRanges"], apart := false, laid := [("unicode/utf8.acceptRanges", laid_unicode_utf8_acceptRanges), ("pleacher/read.marks", laid_pleacher_read_marks), ("unicode/utf8.first", laid_unicode_utf8_first)] }
def ReadTokensSaid : Prop := readTokensRow.holds Tryd.pinned (OpenSpec.ofChange readTokensSpec)

/-- ITS FALSE NEIGHBOUR: 'it returns false'. Refute it at one input. -/
def readTokensWrong : ChangeSpec := { name := "readTokens", fn := fun _ => fun
  | [d] => { results := [.lit (.bool false)], args := [d] }
  | _ => none }
def ReadTokensWrongFalsely : Prop := readTokensRow.holds Tryd.pinned (OpenSpec.ofChange readTokensWrong)

/- THE SECOND FORM. 'bulk': how many values and letters a reading holds, each counted each time it is reached (what is shared counts as often as it is met; a slice's spare places count too). A statement '..UptoSaid' is the law's where the arguments, and the package variables that the reading takes, are together of bulk at most 1048576: NARROWER than '..Said'. Prove '..Said' where nothing that the law and all that it calls make is longer than what came in: it says more and counts as full. Else prove '..UptoSaid'. A law counts once. -/
mutual
def uptoBulk {H : Type} : DataW H → Nat
  | .lit (.string bytes) => bytes.length + 1
  | .lit _ => 1
  | .nil => 1
  | .ptr d => uptoBulk d + 1
  | .slice elems spare => uptoBulkAll elems + uptoBulkAll spare + 1
  | .agg parts => uptoBulkAll parts + 1
  | .iface _ d => uptoBulk d + 1
  | .map entries => uptoBulkEntries entries + 1
  | .held _ => 1
def uptoBulkAll {H : Type} : List (DataW H) → Nat
  | [] => 0
  | d :: r => uptoBulk d + uptoBulkAll r
def uptoBulkEntries {H : Type} : List (Lit × DataW H) → Nat
  | [] => 0
  | x :: r => uptoBulkEntry x + uptoBulkEntries r
def uptoBulkEntry {H : Type} : Lit × DataW H → Nat
  | (.string bytes, d) => bytes.length + uptoBulk d + 1
  | (_, d) => uptoBulk d + 1
 end
def uptoSmall : (H : Type) → List (DataW H) → Bool := fun _ ds => decide (uptoBulkAll ds ≤ 1048576)
def OpenSpec.upto (s : _root_.Go.ChangeSpec) : _root_.Go.OpenSpec := { _root_.Go.OpenSpec.ofChange s with cond := some uptoSmall }

/-- 'pleacherlaw.XmlTexts', WHERE WHAT IT READS IS OF BULK AT MOST 1048576: true; the input reads as it did. -/
def xmlTextsUptoRow : OpenClaim := { program := "ytmalccaijjcepaadoor", sum := "18957979b3514e34296ae259b22b898710a2cbda3e052c6cd6e09721456aee53", func := "pleacher/pleacherlaw.XmlTexts", spec := "xmlTexts", named := ["unicode/utf8.first", "unicode/utf8.acceptRanges"], apart := false, laid := [("unicode/utf8.acceptRanges", laid_unicode_utf8_acceptRanges), ("unicode/utf8.first", laid_unicode_utf8_first)], narrowed := true }
def XmlTextsUptoSaid : Prop := xmlTextsUptoRow.holds Tryd.pinned (OpenSpec.upto xmlTextsSpec)

/-- 'pleacherlaw.RelItems', WHERE WHAT IT READS IS OF BULK AT MOST 1048576: true; the input reads as it did. -/
def relItemsUptoRow : OpenClaim := { program := "ytmalccaijjcepaadoor", sum := "18957979b3514e34296ae259b22b898710a2cbda3e052c6cd6e09721456aee53", func := "pleacher/pleacherlaw.RelItems", spec := "relItems", named := ["unicode/utf8.first", "unicode/utf8.acceptRanges"], apart := false, laid := [("unicode/utf8.acceptRanges", laid_unicode_utf8_acceptRanges), ("unicode/utf8.first", laid_unicode_utf8_first)], narrowed := true }
def RelItemsUptoSaid : Prop := relItemsUptoRow.holds Tryd.pinned (OpenSpec.upto relItemsSpec)

/-- 'pleacherlaw.StoreChecks', WHERE WHAT IT READS IS OF BULK AT MOST 1048576: true; the input reads as it did. -/
def storeChecksUptoRow : OpenClaim := { program := "ytmalccaijjcepaadoor", sum := "18957979b3514e34296ae259b22b898710a2cbda3e052c6cd6e09721456aee53", func := "pleacher/pleacherlaw.StoreChecks", spec := "storeChecks", named := ["unicode/utf8.first", "unicode/utf8.acceptRanges"], apart := false, laid := [("unicode/utf8.acceptRanges", laid_unicode_utf8_acceptRanges), ("unicode/utf8.first", laid_unicode_utf8_first)], narrowed := true }
def StoreChecksUptoSaid : Prop := storeChecksUptoRow.holds Tryd.pinned (OpenSpec.upto storeChecksSpec)

/-- 'pleacherlaw.RelChecks', WHERE WHAT IT READS IS OF BULK AT MOST 1048576: true; the input reads as it did. -/
def relChecksUptoRow : OpenClaim := { program := "ytmalccaijjcepaadoor", sum := "18957979b3514e34296ae259b22b898710a2cbda3e052c6cd6e09721456aee53", func := "pleacher/pleacherlaw.RelChecks", spec := "relChecks", unfollowed := true, recurses := true, named := ["unicode/utf8.first", "unicode/utf8.acceptRanges"], apart := false, laid := [("unicode/utf8.acceptRanges", laid_unicode_utf8_acceptRanges), ("unicode/utf8.first", laid_unicode_utf8_first)], narrowed := true }
def RelChecksUptoSaid : Prop := relChecksUptoRow.holds Tryd.pinned (OpenSpec.upto relChecksSpec)

/-- 'pleacherlaw.StoreEvents', WHERE WHAT IT READS IS OF BULK AT MOST 1048576: true; the input reads as it did. -/
def storeEventsUptoRow : OpenClaim := { program := "ytmalccaijjcepaadoor", sum := "18957979b3514e34296ae259b22b898710a2cbda3e052c6cd6e09721456aee53", func := "pleacher/pleacherlaw.StoreEvents", spec := "storeEvents", recurses := true, named := ["unicode/utf8.first", "unicode/utf8.acceptRanges"], apart := false, laid := [("unicode/utf8.acceptRanges", laid_unicode_utf8_acceptRanges), ("unicode/utf8.first", laid_unicode_utf8_first)], narrowed := true }
def StoreEventsUptoSaid : Prop := storeEventsUptoRow.holds Tryd.pinned (OpenSpec.upto storeEventsSpec)

/-- 'pleacherlaw.StoreTexts', WHERE WHAT IT READS IS OF BULK AT MOST 1048576: true; the input reads as it did. -/
def storeTextsUptoRow : OpenClaim := { program := "ytmalccaijjcepaadoor", sum := "18957979b3514e34296ae259b22b898710a2cbda3e052c6cd6e09721456aee53", func := "pleacher/pleacherlaw.StoreTexts", spec := "storeTexts", inPlace := ["internal/abi.NoEscape"], named := ["unicode/utf8.first", "unicode/utf8.acceptRanges"], apart := false, laid := [("unicode/utf8.acceptRanges", laid_unicode_utf8_acceptRanges), ("unicode/utf8.first", laid_unicode_utf8_first)], narrowed := true }
def StoreTextsUptoSaid : Prop := storeTextsUptoRow.holds Tryd.pinned (OpenSpec.upto storeTextsSpec)

/-- 'pleacherlaw.RelSelects', WHERE WHAT IT READS IS OF BULK AT MOST 1048576: true; the input reads as it did. -/
def relSelectsUptoRow : OpenClaim := { program := "ytmalccaijjcepaadoor", sum := "18957979b3514e34296ae259b22b898710a2cbda3e052c6cd6e09721456aee53", func := "pleacher/pleacherlaw.RelSelects", spec := "relSelects", unfollowed := true, recurses := true, named := ["unicode/utf8.first", "unicode/utf8.acceptRanges"], apart := false, laid := [("unicode/utf8.acceptRanges", laid_unicode_utf8_acceptRanges), ("unicode/utf8.first", laid_unicode_utf8_first)], narrowed := true }
def RelSelectsUptoSaid : Prop := relSelectsUptoRow.holds Tryd.pinned (OpenSpec.upto relSelectsSpec)

/-- 'pleacherlaw.ReadTokens', WHERE WHAT IT READS IS OF BULK AT MOST 1048576: true; the input reads as it did. -/
def readTokensUptoRow : OpenClaim := { program := "ytmalccaijjcepaadoor", sum := "18957979b3514e34296ae259b22b898710a2cbda3e052c6cd6e09721456aee53", func := "pleacher/pleacherlaw.ReadTokens", spec := "readTokens", inPlace := ["internal/bytealg.IndexByteString", "internal/bytealg.IndexString"], named := ["pleacher/read.marks", "internal/bytealg.MaxLen", "unicode/utf8.first", "unicode/utf8.acceptRanges"], apart := false, laid := [("unicode/utf8.acceptRanges", laid_unicode_utf8_acceptRanges), ("pleacher/read.marks", laid_pleacher_read_marks), ("unicode/utf8.first", laid_unicode_utf8_first)], narrowed := true }
def ReadTokensUptoSaid : Prop := readTokensUptoRow.holds Tryd.pinned (OpenSpec.upto readTokensSpec)

end Rows
end Go.Proofs.YtmalccaijjcepaaDoor
