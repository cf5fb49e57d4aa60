/-
  NARROWER THAN 'FOR EVERY INPUT', by the rows' own cells (each row's printed sentence says how): StoreCopies: laid · RelCrosses: laid · RelUnions: laid · RelJoins: laid · ReadTokens: laid · RelUniques: laid · RelExcepts: laid.
  DERIVED. THE GIVEN ROWS OF THIS SEAT. 7 by the template 'for every input the law returns true; each argument reads behind the call as it read before'; 0 by the template 'total and deterministic' (their statements: YtohonoiojabjaaaDoorTotals.lean).
  GIVEN WITH THE SEED: the statements are not yours to turn. If you find one false, say at which input.
  Laid BY PROGRAM, IN A SANDBOX (cutbox-rows.mjs): the forced cells as the released guide's own fill.sh prints them over the translation b3817a3566940271… (all of the seat's roots in one cut). By AI agents, Wed Nov 11 2026. No macro, syntax, notation, axiom, sorry.
-/
import Derived.Test.YtohonoiojabjaaaDoorChecked
import GoSem.PinnedTables
import GoSem.Claim
import GoSem.ClaimJoined
import GoSem.ClaimMapViews
import Derived.JoinedTies
import Derived.KernelRfl
namespace Go.Proofs.YtohonoiojabjaaaDoor
/- THE CELL 'sum', in the pinned program and in every row, IS THE sha256 OF THE DUMP (.gsa) THAT YtohonoiojabjaaaDoorProg.lean LOADS. Nothing in Lean hashes anything: it is a label: what it is worth is what the hold of that sum in a sandbox is worth. -/
noncomputable def Tryd.pinned : Pinned := { name := "ytohonoiojabjaaadoor", sum := "b3817a3566940271b82b8d647c5a7185017693fc421ca89e1caf7b26f2724661", checked := Tryd.checked }
namespace Rows
def none {H : Type} : Left H := { results := [], args := [] }

/- WHAT THE LISTED PACKAGE-LEVEL VARIABLES READ AS WHEN THE CALL BEGINS. Each datum BY PROGRAM (the guide's laid-datum.mjs) off the statement by which the dump's own 'gosem.cut.vars' lays the variable. In a bare row this is a premise. The card (YtohonoiojabjaaaDoorCards.lean) ties it to the program's text. -/
def laid_unicode_utf8_acceptRanges {H : Type} : DataW H := .agg [.agg [.lit (.int .u8 128), .lit (.int .u8 191)], .agg [.lit (.int .u8 160), .lit (.int .u8 191)], .agg [.lit (.int .u8 128), .lit (.int .u8 159)], .agg [.lit (.int .u8 144), .lit (.int .u8 191)], .agg [.lit (.int .u8 128), .lit (.int .u8 143)], .agg [.lit (.int .u8 0), .lit (.int .u8 0)], .agg [.lit (.int .u8 0), .lit (.int .u8 0)], .agg [.lit (.int .u8 0), .lit (.int .u8 0)], .agg [.lit (.int .u8 0), .lit (.int .u8 0)], .agg [.lit (.int .u8 0), .lit (.int .u8 0)], .agg [.lit (.int .u8 0), .lit (.int .u8 0)], .agg [.lit (.int .u8 0), .lit (.int .u8 0)], .agg [.lit (.int .u8 0), .lit (.int .u8 0)], .agg [.lit (.int .u8 0), .lit (.int .u8 0)], .agg [.lit (.int .u8 0), .lit (.int .u8 0)], .agg [.lit (.int .u8 0), .lit (.int .u8 0)]]
/-- One of Go's own tables, pinned by name: the form's constant. -/
def laid_unicode_utf8_first : DataW Unit := Go.Pinned.utf8First
def laid_pleacher_read_marks {H : Type} : DataW H := .agg [.lit (.string [58, 58]), .lit (.string [47, 47]), .lit (.string [46, 46]), .lit (.string [58, 61]), .lit (.string [33, 61]), .lit (.string [60, 61]), .lit (.string [62, 61]), .lit (.string [60, 60]), .lit (.string [62, 62]), .lit (.string [47]), .lit (.string [40]), .lit (.string [41]), .lit (.string [91]), .lit (.string [93]), .lit (.string [123]), .lit (.string [125]), .lit (.string [44]), .lit (.string [46]), .lit (.string [64]), .lit (.string [42]), .lit (.string [61]), .lit (.string [60]), .lit (.string [62]), .lit (.string [43]), .lit (.string [45]), .lit (.string [124])]

/-- 'pleacherlaw.StoreCopies': WHATEVER THE INPUT: true; the input reads as it did. -/
def storeCopiesSpec : ChangeSpec := { name := "storeCopies", fn := fun _ => fun
  | [d1, d2, d3, d4] => { results := [.lit (.bool true)], args := [d1, d2, d3, d4] }
  | _ => none }
def storeCopiesRow : OpenClaim := { program := "ytohonoiojabjaaadoor", sum := "b3817a3566940271b82b8d647c5a7185017693fc421ca89e1caf7b26f2724661", func := "pleacher/pleacherlaw.StoreCopies", spec := "storeCopies", named := ["unicode/utf8.first", "unicode/utf8.acceptRanges"], plainKeys := false, apart := false, laid := [("unicode/utf8.acceptRanges", laid_unicode_utf8_acceptRanges), ("unicode/utf8.first", laid_unicode_utf8_first)] }
def StoreCopiesSaid : Prop := storeCopiesRow.holds Tryd.pinned (OpenSpec.ofChange storeCopiesSpec)

/-- ITS FALSE NEIGHBOUR: 'it returns false'. Refute it at one input. -/
def storeCopiesWrong : ChangeSpec := { name := "storeCopies", fn := fun _ => fun
  | [d1, d2, d3, d4] => { results := [.lit (.bool false)], args := [d1, d2, d3, d4] }
  | _ => none }
def StoreCopiesWrongFalsely : Prop := storeCopiesRow.holds Tryd.pinned (OpenSpec.ofChange storeCopiesWrong)

/-- 'pleacherlaw.RelCrosses': WHATEVER THE INPUT: true; the input reads as it did. -/
def relCrossesSpec : ChangeSpec := { name := "relCrosses", fn := fun _ => fun
  | [d1, d2] => { results := [.lit (.bool true)], args := [d1, d2] }
  | _ => none }
def relCrossesRow : OpenClaim := { program := "ytohonoiojabjaaadoor", sum := "b3817a3566940271b82b8d647c5a7185017693fc421ca89e1caf7b26f2724661", func := "pleacher/pleacherlaw.RelCrosses", spec := "relCrosses", unfollowed := true, recurses := true, named := ["unicode/utf8.first", "unicode/utf8.acceptRanges"], plainKeys := false, apart := false, laid := [("unicode/utf8.acceptRanges", laid_unicode_utf8_acceptRanges), ("unicode/utf8.first", laid_unicode_utf8_first)] }
def RelCrossesSaid : Prop := relCrossesRow.holds Tryd.pinned (OpenSpec.ofChange relCrossesSpec)

/-- ITS FALSE NEIGHBOUR: 'it returns false'. Refute it at one input. -/
def relCrossesWrong : ChangeSpec := { name := "relCrosses", fn := fun _ => fun
  | [d1, d2] => { results := [.lit (.bool false)], args := [d1, d2] }
  | _ => none }
def RelCrossesWrongFalsely : Prop := relCrossesRow.holds Tryd.pinned (OpenSpec.ofChange relCrossesWrong)

/-- 'pleacherlaw.RelUnions': WHATEVER THE INPUT: true; the input reads as it did. -/
def relUnionsSpec : ChangeSpec := { name := "relUnions", fn := fun _ => fun
  | [d1, d2] => { results := [.lit (.bool true)], args := [d1, d2] }
  | _ => none }
def relUnionsRow : OpenClaim := { program := "ytohonoiojabjaaadoor", sum := "b3817a3566940271b82b8d647c5a7185017693fc421ca89e1caf7b26f2724661", func := "pleacher/pleacherlaw.RelUnions", spec := "relUnions", unfollowed := true, recurses := true, named := ["unicode/utf8.first", "unicode/utf8.acceptRanges"], plainKeys := false, apart := false, laid := [("unicode/utf8.acceptRanges", laid_unicode_utf8_acceptRanges), ("unicode/utf8.first", laid_unicode_utf8_first)] }
def RelUnionsSaid : Prop := relUnionsRow.holds Tryd.pinned (OpenSpec.ofChange relUnionsSpec)

/-- ITS FALSE NEIGHBOUR: 'it returns false'. Refute it at one input. -/
def relUnionsWrong : ChangeSpec := { name := "relUnions", fn := fun _ => fun
  | [d1, d2] => { results := [.lit (.bool false)], args := [d1, d2] }
  | _ => none }
def RelUnionsWrongFalsely : Prop := relUnionsRow.holds Tryd.pinned (OpenSpec.ofChange relUnionsWrong)

/-- 'pleacherlaw.RelJoins': WHATEVER THE INPUT: true; the input reads as it did. -/
def relJoinsSpec : ChangeSpec := { name := "relJoins", fn := fun _ => fun
  | [d1, d2, d3, d4] => { results := [.lit (.bool true)], args := [d1, d2, d3, d4] }
  | _ => none }
def relJoinsRow : OpenClaim := { program := "ytohonoiojabjaaadoor", sum := "b3817a3566940271b82b8d647c5a7185017693fc421ca89e1caf7b26f2724661", func := "pleacher/pleacherlaw.RelJoins", spec := "relJoins", unfollowed := true, recurses := true, named := ["unicode/utf8.first", "unicode/utf8.acceptRanges"], plainKeys := false, apart := false, laid := [("unicode/utf8.acceptRanges", laid_unicode_utf8_acceptRanges), ("unicode/utf8.first", laid_unicode_utf8_first)] }
def RelJoinsSaid : Prop := relJoinsRow.holds Tryd.pinned (OpenSpec.ofChange relJoinsSpec)

/-- ITS FALSE NEIGHBOUR: 'it returns false'. Refute it at one input. -/
def relJoinsWrong : ChangeSpec := { name := "relJoins", fn := fun _ => fun
  | [d1, d2, d3, d4] => { results := [.lit (.bool false)], args := [d1, d2, d3, d4] }
  | _ => none }
def RelJoinsWrongFalsely : Prop := relJoinsRow.holds Tryd.pinned (OpenSpec.ofChange relJoinsWrong)

/-- 'pleacherlaw.ReadTokens': WHATEVER THE INPUT: true; the input reads as it did. -/
def readTokensSpec : ChangeSpec := { name := "readTokens", fn := fun _ => fun
  | [d] => { results := [.lit (.bool true)], args := [d] }
  | _ => none }
def readTokensRow : OpenClaim := { program := "ytohonoiojabjaaadoor", sum := "b3817a3566940271b82b8d647c5a7185017693fc421ca89e1caf7b26f2724661", func := "pleacher/pleacherlaw.ReadTokens", spec := "readTokens", inPlace := ["internal/bytealg.IndexByteString", "internal/bytealg.IndexString"], named := ["pleacher/read.marks", "internal/bytealg.MaxLen", "unicode/utf8.first", "unicode/utf8.acceptRanges"], plainKeys := false, apart := false, laid := [("unicode/utf8.acceptRanges", laid_unicode_utf8_acceptRanges), ("pleacher/read.marks", laid_pleacher_read_marks), ("unicode/utf8.first", laid_unicode_utf8_first)] }
def ReadTokensSaid : Prop := readTokensRow.holds Tryd.pinned (OpenSpec.ofChange readTokensSpec)

/-- ITS FALSE NEIGHBOUR: 'it returns false'. Refute it at one input. -/
def readTokensWrong : ChangeSpec := { name := "readTokens", fn := fun _ => fun
  | [d] => { results := [.lit (.bool false)], args := [d] }
  | _ => none }
def ReadTokensWrongFalsely : Prop := readTokensRow.holds Tryd.pinned (OpenSpec.ofChange readTokensWrong)

/-- 'pleacherlaw.RelUniques': WHATEVER THE INPUT: true; the input reads as it did. -/
def relUniquesSpec : ChangeSpec := { name := "relUniques", fn := fun _ => fun
  | [d1, d2] => { results := [.lit (.bool true)], args := [d1, d2] }
  | _ => none }
def relUniquesRow : OpenClaim := { program := "ytohonoiojabjaaadoor", sum := "b3817a3566940271b82b8d647c5a7185017693fc421ca89e1caf7b26f2724661", func := "pleacher/pleacherlaw.RelUniques", spec := "relUniques", inPlace := ["internal/abi.NoEscape"], unfollowed := true, recurses := true, named := ["unicode/utf8.first", "unicode/utf8.acceptRanges"], plainKeys := false, apart := false, laid := [("unicode/utf8.acceptRanges", laid_unicode_utf8_acceptRanges), ("unicode/utf8.first", laid_unicode_utf8_first)] }
def RelUniquesSaid : Prop := relUniquesRow.holds Tryd.pinned (OpenSpec.ofChange relUniquesSpec)

/-- ITS FALSE NEIGHBOUR: 'it returns false'. Refute it at one input. -/
def relUniquesWrong : ChangeSpec := { name := "relUniques", fn := fun _ => fun
  | [d1, d2] => { results := [.lit (.bool false)], args := [d1, d2] }
  | _ => none }
def RelUniquesWrongFalsely : Prop := relUniquesRow.holds Tryd.pinned (OpenSpec.ofChange relUniquesWrong)

/-- 'pleacherlaw.RelExcepts': WHATEVER THE INPUT: true; the input reads as it did. -/
def relExceptsSpec : ChangeSpec := { name := "relExcepts", fn := fun _ => fun
  | [d1, d2, d3] => { results := [.lit (.bool true)], args := [d1, d2, d3] }
  | _ => none }
def relExceptsRow : OpenClaim := { program := "ytohonoiojabjaaadoor", sum := "b3817a3566940271b82b8d647c5a7185017693fc421ca89e1caf7b26f2724661", func := "pleacher/pleacherlaw.RelExcepts", spec := "relExcepts", inPlace := ["internal/abi.NoEscape"], unfollowed := true, recurses := true, named := ["unicode/utf8.first", "unicode/utf8.acceptRanges"], plainKeys := false, apart := false, laid := [("unicode/utf8.acceptRanges", laid_unicode_utf8_acceptRanges), ("unicode/utf8.first", laid_unicode_utf8_first)] }
def RelExceptsSaid : Prop := relExceptsRow.holds Tryd.pinned (OpenSpec.ofChange relExceptsSpec)

/-- ITS FALSE NEIGHBOUR: 'it returns false'. Refute it at one input. -/
def relExceptsWrong : ChangeSpec := { name := "relExcepts", fn := fun _ => fun
  | [d1, d2, d3] => { results := [.lit (.bool false)], args := [d1, d2, d3] }
  | _ => none }
def RelExceptsWrongFalsely : Prop := relExceptsRow.holds Tryd.pinned (OpenSpec.ofChange relExceptsWrong)

/- THE SECOND FORM. 'bulk': how many values and letters a reading holds, each counted each time it is reached (what is shared counts as often as it is met; a slice's spare places count too). A statement '..UptoSaid' is the law's where the arguments, and the package variables that the reading takes, are together of bulk at most 1048576: NARROWER than '..Said'. Prove '..Said' where nothing that the law and all that it calls make is longer than what came in: it says more and counts as full. Else prove '..UptoSaid'. A law counts once. -/
mutual
def uptoBulk {H : Type} : DataW H → Nat
  | .lit (.string bytes) => bytes.length + 1
  | .lit _ => 1
  | .nil => 1
  | .ptr d => uptoBulk d + 1
  | .slice elems spare => uptoBulkAll elems + uptoBulkAll spare + 1
  | .agg parts => uptoBulkAll parts + 1
  | .iface _ d => uptoBulk d + 1
  | .map entries => uptoBulkEntries entries + 1
  | .held _ => 1
def uptoBulkAll {H : Type} : List (DataW H) → Nat
  | [] => 0
  | d :: r => uptoBulk d + uptoBulkAll r
def uptoBulkEntries {H : Type} : List (Lit × DataW H) → Nat
  | [] => 0
  | x :: r => uptoBulkEntry x + uptoBulkEntries r
def uptoBulkEntry {H : Type} : Lit × DataW H → Nat
  | (.string bytes, d) => bytes.length + uptoBulk d + 1
  | (_, d) => uptoBulk d + 1
 end
def uptoSmall : (H : Type) → List (DataW H) → Bool := fun _ ds => decide (uptoBulkAll ds ≤ 1048576)
def OpenSpec.upto (s : _root_.Go.ChangeSpec) : _root_.Go.OpenSpec := { _root_.Go.OpenSpec.ofChange s with cond := some uptoSmall }

/-- 'pleacherlaw.StoreCopies', WHERE WHAT IT READS IS OF BULK AT MOST 1048576: true; the input reads as it did. -/
def storeCopiesUptoRow : OpenClaim := { program := "ytohonoiojabjaaadoor", sum := "b3817a3566940271b82b8d647c5a7185017693fc421ca89e1caf7b26f2724661", func := "pleacher/pleacherlaw.StoreCopies", spec := "storeCopies", named := ["unicode/utf8.first", "unicode/utf8.acceptRanges"], plainKeys := false, apart := false, laid := [("unicode/utf8.acceptRanges", laid_unicode_utf8_acceptRanges), ("unicode/utf8.first", laid_unicode_utf8_first)], narrowed := true }
def StoreCopiesUptoSaid : Prop := storeCopiesUptoRow.holds Tryd.pinned (OpenSpec.upto storeCopiesSpec)

/-- 'pleacherlaw.RelCrosses', WHERE WHAT IT READS IS OF BULK AT MOST 1048576: true; the input reads as it did. -/
def relCrossesUptoRow : OpenClaim := { program := "ytohonoiojabjaaadoor", sum := "b3817a3566940271b82b8d647c5a7185017693fc421ca89e1caf7b26f2724661", func := "pleacher/pleacherlaw.RelCrosses", spec := "relCrosses", unfollowed := true, recurses := true, named := ["unicode/utf8.first", "unicode/utf8.acceptRanges"], plainKeys := false, apart := false, laid := [("unicode/utf8.acceptRanges", laid_unicode_utf8_acceptRanges), ("unicode/utf8.first", laid_unicode_utf8_first)], narrowed := true }
def RelCrossesUptoSaid : Prop := relCrossesUptoRow.holds Tryd.pinned (OpenSpec.upto relCrossesSpec)

/-- 'pleacherlaw.RelUnions', WHERE WHAT IT READS IS OF BULK AT MOST 1048576: true; the input reads as it did. -/
def relUnionsUptoRow : OpenClaim := { program := "ytohonoiojabjaaadoor", sum := "b3817a3566940271b82b8d647c5a7185017693fc421ca89e1caf7b26f2724661", func := "pleacher/pleacherlaw.RelUnions", spec := "relUnions", unfollowed := true, recurses := true, named := ["unicode/utf8.first", "unicode/utf8.acceptRanges"], plainKeys := false, apart := false, laid := [("unicode/utf8.acceptRanges", laid_unicode_utf8_acceptRanges), ("unicode/utf8.first", laid_unicode_utf8_first)], narrowed := true }
def RelUnionsUptoSaid : Prop := relUnionsUptoRow.holds Tryd.pinned (OpenSpec.upto relUnionsSpec)

/-- 'pleacherlaw.RelJoins', WHERE WHAT IT READS IS OF BULK AT MOST 1048576: true; the input reads as it did. -/
def relJoinsUptoRow : OpenClaim := { program := "ytohonoiojabjaaadoor", sum := "b3817a3566940271b82b8d647c5a7185017693fc421ca89e1caf7b26f2724661", func := "pleacher/pleacherlaw.RelJoins", spec := "relJoins", unfollowed := true, recurses := true, named := ["unicode/utf8.first", "unicode/utf8.acceptRanges"], plainKeys := false, apart := false, laid := [("unicode/utf8.acceptRanges", laid_unicode_utf8_acceptRanges), ("unicode/utf8.first", laid_unicode_utf8_first)], narrowed := true }
def RelJoinsUptoSaid : Prop := relJoinsUptoRow.holds Tryd.pinned (OpenSpec.upto relJoinsSpec)

/-- 'pleacherlaw.ReadTokens', WHERE WHAT IT READS IS OF BULK AT MOST 1048576: true; the input reads as it did. -/
def readTokensUptoRow : OpenClaim := { program := "ytohonoiojabjaaadoor", sum := "b3817a3566940271b82b8d647c5a7185017693fc421ca89e1caf7b26f2724661", func := "pleacher/pleacherlaw.ReadTokens", spec := "readTokens", inPlace := ["internal/bytealg.IndexByteString", "internal/bytealg.IndexString"], named := ["pleacher/read.marks", "internal/bytealg.MaxLen", "unicode/utf8.first", "unicode/utf8.acceptRanges"], plainKeys := false, apart := false, laid := [("unicode/utf8.acceptRanges", laid_unicode_utf8_acceptRanges), ("pleacher/read.marks", laid_pleacher_read_marks), ("unicode/utf8.first", laid_unicode_utf8_first)], narrowed := true }
def ReadTokensUptoSaid : Prop := readTokensUptoRow.holds Tryd.pinned (OpenSpec.upto readTokensSpec)

/-- 'pleacherlaw.RelUniques', WHERE WHAT IT READS IS OF BULK AT MOST 1048576: true; the input reads as it did. -/
def relUniquesUptoRow : OpenClaim := { program := "ytohonoiojabjaaadoor", sum := "b3817a3566940271b82b8d647c5a7185017693fc421ca89e1caf7b26f2724661", func := "pleacher/pleacherlaw.RelUniques", spec := "relUniques", inPlace := ["internal/abi.NoEscape"], unfollowed := true, recurses := true, named := ["unicode/utf8.first", "unicode/utf8.acceptRanges"], plainKeys := false, apart := false, laid := [("unicode/utf8.acceptRanges", laid_unicode_utf8_acceptRanges), ("unicode/utf8.first", laid_unicode_utf8_first)], narrowed := true }
def RelUniquesUptoSaid : Prop := relUniquesUptoRow.holds Tryd.pinned (OpenSpec.upto relUniquesSpec)

/-- 'pleacherlaw.RelExcepts', WHERE WHAT IT READS IS OF BULK AT MOST 1048576: true; the input reads as it did. -/
def relExceptsUptoRow : OpenClaim := { program := "ytohonoiojabjaaadoor", sum := "b3817a3566940271b82b8d647c5a7185017693fc421ca89e1caf7b26f2724661", func := "pleacher/pleacherlaw.RelExcepts", spec := "relExcepts", inPlace := ["internal/abi.NoEscape"], unfollowed := true, recurses := true, named := ["unicode/utf8.first", "unicode/utf8.acceptRanges"], plainKeys := false, apart := false, laid := [("unicode/utf8.acceptRanges", laid_unicode_utf8_acceptRanges), ("unicode/utf8.first", laid_unicode_utf8_first)], narrowed := true }
def RelExceptsUptoSaid : Prop := relExceptsUptoRow.holds Tryd.pinned (OpenSpec.upto relExceptsSpec)

end Rows
end Go.Proofs.YtohonoiojabjaaaDoor
