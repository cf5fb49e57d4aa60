/-
  DERIVED. GIVEN WITH THE SEED: THE CARDS: each row of YtkfjocccceeieaaDoorRows.lean that lists a variable, with what it lists TIED to the program's text (the seventh form; the later family's looks); each row that meets fmt, with fmt's text TOLD by the authors' own Lean function (tested against real Go, not proved from fmt's source: count such statements apart). THE CARD IS WHAT COUNTS. Prove the row's statement (the work); the ties are given (YtkfjocccceeieaaDoorTie.lean); close each card by the builder's one call (the guide's Derived/Test/ToyasCard.lean, 'card_holds'). Laid BY PROGRAM, IN A SANDBOX (cutbox-door.mjs). By AI agents, Wed Nov 11 2026. No macro, syntax, notation, axiom, sorry.
-/
import Derived.Test.YtkfjocccceeieaaDoorRows
import GoSem.ClaimSeven
namespace Go.Proofs.YtkfjocccceeieaaDoor
namespace Rows

/-- THE TIED CARD OF 'pleacherlaw.RelProjects'. -/
def relProjectsCard : Claim7 := { stood := { row := relProjectsRow, standIns := [], harness := (true, "99b79d2c132d9187f4e9b74ce799a40a17ebe85c4edf0e74b3ecb26b7d5c8926"), looks := false }, kinds := [], alts := [], laidByText := true, laidKinds := [.data, .pinned], laidTests := true, laidLooks := .later }
def RelProjectsCardSaid : Prop := Claim7.holds Tryd.pinned (.plain (OpenSpec.ofChange relProjectsSpec)) relProjectsCard

/-- THE TIED CARD OF 'pleacherlaw.RelCrosses'. -/
def relCrossesCard : Claim7 := { stood := { row := relCrossesRow, standIns := [], harness := (true, "99b79d2c132d9187f4e9b74ce799a40a17ebe85c4edf0e74b3ecb26b7d5c8926"), looks := false }, kinds := [], alts := [], laidByText := true, laidKinds := [.data, .pinned], laidTests := true, laidLooks := .later }
def RelCrossesCardSaid : Prop := Claim7.holds Tryd.pinned (.plain (OpenSpec.ofChange relCrossesSpec)) relCrossesCard

/-- THE TIED CARD OF 'pleacherlaw.RelUnions'. -/
def relUnionsCard : Claim7 := { stood := { row := relUnionsRow, standIns := [], harness := (true, "99b79d2c132d9187f4e9b74ce799a40a17ebe85c4edf0e74b3ecb26b7d5c8926"), looks := false }, kinds := [], alts := [], laidByText := true, laidKinds := [.data, .pinned], laidTests := true, laidLooks := .later }
def RelUnionsCardSaid : Prop := Claim7.holds Tryd.pinned (.plain (OpenSpec.ofChange relUnionsSpec)) relUnionsCard

/-- THE TIED CARD OF 'pleacherlaw.RelGroups'. -/
def relGroupsCard : Claim7 := { stood := { row := relGroupsRow, standIns := [], harness := (true, "99b79d2c132d9187f4e9b74ce799a40a17ebe85c4edf0e74b3ecb26b7d5c8926"), looks := false }, kinds := [], alts := [], laidByText := true, laidKinds := [.data, .pinned], laidTests := true, laidLooks := .later }
def RelGroupsCardSaid : Prop := Claim7.holds Tryd.pinned (.plain (OpenSpec.ofChange relGroupsSpec)) relGroupsCard

/-- THE TIED CARD OF 'pleacherlaw.RelJoins'. -/
def relJoinsCard : Claim7 := { stood := { row := relJoinsRow, standIns := [], harness := (true, "99b79d2c132d9187f4e9b74ce799a40a17ebe85c4edf0e74b3ecb26b7d5c8926"), looks := false }, kinds := [], alts := [], laidByText := true, laidKinds := [.data, .pinned], laidTests := true, laidLooks := .later }
def RelJoinsCardSaid : Prop := Claim7.holds Tryd.pinned (.plain (OpenSpec.ofChange relJoinsSpec)) relJoinsCard

/-- THE TIED CARD OF 'pleacherlaw.RelUniques'. -/
def relUniquesCard : Claim7 := { stood := { row := relUniquesRow, standIns := [], harness := (true, "99b79d2c132d9187f4e9b74ce799a40a17ebe85c4edf0e74b3ecb26b7d5c8926"), looks := false }, kinds := [], alts := [], laidByText := true, laidKinds := [.data, .pinned], laidTests := true, laidLooks := .later }
def RelUniquesCardSaid : Prop := Claim7.holds Tryd.pinned (.plain (OpenSpec.ofChange relUniquesSpec)) relUniquesCard

/-- THE TIED CARD OF 'pleacherlaw.RelExcepts'. -/
def relExceptsCard : Claim7 := { stood := { row := relExceptsRow, standIns := [], harness := (true, "99b79d2c132d9187f4e9b74ce799a40a17ebe85c4edf0e74b3ecb26b7d5c8926"), looks := false }, kinds := [], alts := [], laidByText := true, laidKinds := [.data, .pinned], laidTests := true, laidLooks := .later }
def RelExceptsCardSaid : Prop := Claim7.holds Tryd.pinned (.plain (OpenSpec.ofChange relExceptsSpec)) relExceptsCard

/-- THE TIED CARD OF 'pleacherlaw.RelSorts'. -/
def relSortsCard : Claim7 := { stood := { row := relSortsRow, standIns := [], harness := (true, "99b79d2c132d9187f4e9b74ce799a40a17ebe85c4edf0e74b3ecb26b7d5c8926"), looks := false }, kinds := [], alts := [], laidByText := true, laidKinds := [.data, .pinned], laidTests := true, laidLooks := .later }
def RelSortsCardSaid : Prop := Claim7.holds Tryd.pinned (.plain (OpenSpec.ofChange relSortsSpec)) relSortsCard

/-- THE TIED CARD OF 'pleacherlaw.RelRanks'. -/
def relRanksCard : Claim7 := { stood := { row := relRanksRow, standIns := [], harness := (true, "99b79d2c132d9187f4e9b74ce799a40a17ebe85c4edf0e74b3ecb26b7d5c8926"), looks := false }, kinds := [], alts := [], laidByText := true, laidKinds := [.data, .pinned], laidTests := true, laidLooks := .later }
def RelRanksCardSaid : Prop := Claim7.holds Tryd.pinned (.plain (OpenSpec.ofChange relRanksSpec)) relRanksCard

/-- THE SECOND FORM's CARD OF 'pleacherlaw.RelProjects'. -/
def relProjectsUptoCard : Claim7 := { stood := { row := relProjectsUptoRow, standIns := [], harness := (true, "99b79d2c132d9187f4e9b74ce799a40a17ebe85c4edf0e74b3ecb26b7d5c8926"), looks := false }, kinds := [], alts := [], laidByText := true, laidKinds := [.data, .pinned], laidTests := true, laidLooks := .later }
def RelProjectsUptoCardSaid : Prop := Claim7.holds Tryd.pinned (.plain (OpenSpec.upto relProjectsSpec)) relProjectsUptoCard

/-- THE SECOND FORM's CARD OF 'pleacherlaw.RelCrosses'. -/
def relCrossesUptoCard : Claim7 := { stood := { row := relCrossesUptoRow, standIns := [], harness := (true, "99b79d2c132d9187f4e9b74ce799a40a17ebe85c4edf0e74b3ecb26b7d5c8926"), looks := false }, kinds := [], alts := [], laidByText := true, laidKinds := [.data, .pinned], laidTests := true, laidLooks := .later }
def RelCrossesUptoCardSaid : Prop := Claim7.holds Tryd.pinned (.plain (OpenSpec.upto relCrossesSpec)) relCrossesUptoCard

/-- THE SECOND FORM's CARD OF 'pleacherlaw.RelUnions'. -/
def relUnionsUptoCard : Claim7 := { stood := { row := relUnionsUptoRow, standIns := [], harness := (true, "99b79d2c132d9187f4e9b74ce799a40a17ebe85c4edf0e74b3ecb26b7d5c8926"), looks := false }, kinds := [], alts := [], laidByText := true, laidKinds := [.data, .pinned], laidTests := true, laidLooks := .later }
def RelUnionsUptoCardSaid : Prop := Claim7.holds Tryd.pinned (.plain (OpenSpec.upto relUnionsSpec)) relUnionsUptoCard

/-- THE SECOND FORM's CARD OF 'pleacherlaw.RelGroups'. -/
def relGroupsUptoCard : Claim7 := { stood := { row := relGroupsUptoRow, standIns := [], harness := (true, "99b79d2c132d9187f4e9b74ce799a40a17ebe85c4edf0e74b3ecb26b7d5c8926"), looks := false }, kinds := [], alts := [], laidByText := true, laidKinds := [.data, .pinned], laidTests := true, laidLooks := .later }
def RelGroupsUptoCardSaid : Prop := Claim7.holds Tryd.pinned (.plain (OpenSpec.upto relGroupsSpec)) relGroupsUptoCard

/-- THE SECOND FORM's CARD OF 'pleacherlaw.RelJoins'. -/
def relJoinsUptoCard : Claim7 := { stood := { row := relJoinsUptoRow, standIns := [], harness := (true, "99b79d2c132d9187f4e9b74ce799a40a17ebe85c4edf0e74b3ecb26b7d5c8926"), looks := false }, kinds := [], alts := [], laidByText := true, laidKinds := [.data, .pinned], laidTests := true, laidLooks := .later }
def RelJoinsUptoCardSaid : Prop := Claim7.holds Tryd.pinned (.plain (OpenSpec.upto relJoinsSpec)) relJoinsUptoCard

/-- THE SECOND FORM's CARD OF 'pleacherlaw.RelUniques'. -/
def relUniquesUptoCard : Claim7 := { stood := { row := relUniquesUptoRow, standIns := [], harness := (true, "99b79d2c132d9187f4e9b74ce799a40a17ebe85c4edf0e74b3ecb26b7d5c8926"), looks := false }, kinds := [], alts := [], laidByText := true, laidKinds := [.data, .pinned], laidTests := true, laidLooks := .later }
def RelUniquesUptoCardSaid : Prop := Claim7.holds Tryd.pinned (.plain (OpenSpec.upto relUniquesSpec)) relUniquesUptoCard

/-- THE SECOND FORM's CARD OF 'pleacherlaw.RelExcepts'. -/
def relExceptsUptoCard : Claim7 := { stood := { row := relExceptsUptoRow, standIns := [], harness := (true, "99b79d2c132d9187f4e9b74ce799a40a17ebe85c4edf0e74b3ecb26b7d5c8926"), looks := false }, kinds := [], alts := [], laidByText := true, laidKinds := [.data, .pinned], laidTests := true, laidLooks := .later }
def RelExceptsUptoCardSaid : Prop := Claim7.holds Tryd.pinned (.plain (OpenSpec.upto relExceptsSpec)) relExceptsUptoCard

/-- THE SECOND FORM's CARD OF 'pleacherlaw.RelSorts'. -/
def relSortsUptoCard : Claim7 := { stood := { row := relSortsUptoRow, standIns := [], harness := (true, "99b79d2c132d9187f4e9b74ce799a40a17ebe85c4edf0e74b3ecb26b7d5c8926"), looks := false }, kinds := [], alts := [], laidByText := true, laidKinds := [.data, .pinned], laidTests := true, laidLooks := .later }
def RelSortsUptoCardSaid : Prop := Claim7.holds Tryd.pinned (.plain (OpenSpec.upto relSortsSpec)) relSortsUptoCard

/-- THE SECOND FORM's CARD OF 'pleacherlaw.RelRanks'. -/
def relRanksUptoCard : Claim7 := { stood := { row := relRanksUptoRow, standIns := [], harness := (true, "99b79d2c132d9187f4e9b74ce799a40a17ebe85c4edf0e74b3ecb26b7d5c8926"), looks := false }, kinds := [], alts := [], laidByText := true, laidKinds := [.data, .pinned], laidTests := true, laidLooks := .later }
def RelRanksUptoCardSaid : Prop := Claim7.holds Tryd.pinned (.plain (OpenSpec.upto relRanksSpec)) relRanksUptoCard
end Rows
end Go.Proofs.YtkfjocccceeieaaDoor
