/-
  DERIVED. GIVEN WITH THE SEED: THE CARDS: each row of YtafbojmnmadlpaaDoorRows.lean that lists a variable, with what it lists TIED to the program's text (the seventh form; the later family's looks); each row that meets fmt, with fmt's text TOLD by the authors' own Lean function (tested against real Go, not proved from fmt's source: count such statements apart). THE CARD IS WHAT COUNTS. Prove the row's statement (the work); the ties are given (YtafbojmnmadlpaaDoorTie.lean); close each card by the builder's one call (the guide's Derived/Test/ToyasCard.lean, 'card_holds'). Laid BY PROGRAM, IN A SANDBOX (cutbox-door.mjs). By AI agents, Wed Nov 11 2026. No macro, syntax, notation, axiom, sorry.
-/
import Derived.Test.YtafbojmnmadlpaaDoorRows
import GoSem.ClaimSeven
namespace Go.Proofs.YtafbojmnmadlpaaDoor
namespace Rows

/-- THE TIED CARD OF 'pleacherlaw.RelGroups'. -/
def relGroupsCard : Claim7 := { stood := { row := relGroupsRow, standIns := [], harness := (true, "b13989b6fc63fa70ba6dfa35fe80cafa50b2e91b5dcc9ac06518a95f3687316c"), looks := false }, kinds := [], alts := [], laidByText := true, laidKinds := [.data, .pinned], laidTests := true, laidLooks := .later }
def RelGroupsCardSaid : Prop := Claim7.holds Tryd.pinned (.plain (OpenSpec.ofChange relGroupsSpec)) relGroupsCard

/-- THE TIED CARD OF 'pleacherlaw.RelJoins'. -/
def relJoinsCard : Claim7 := { stood := { row := relJoinsRow, standIns := [], harness := (true, "b13989b6fc63fa70ba6dfa35fe80cafa50b2e91b5dcc9ac06518a95f3687316c"), looks := false }, kinds := [], alts := [], laidByText := true, laidKinds := [.data, .pinned], laidTests := true, laidLooks := .later }
def RelJoinsCardSaid : Prop := Claim7.holds Tryd.pinned (.plain (OpenSpec.ofChange relJoinsSpec)) relJoinsCard

/-- THE TIED CARD OF 'pleacherlaw.CoreChecks'. -/
def coreChecksCard : Claim7 := { stood := { row := coreChecksRow, standIns := [], harness := (true, "b13989b6fc63fa70ba6dfa35fe80cafa50b2e91b5dcc9ac06518a95f3687316c"), looks := false }, kinds := [], alts := [], laidByText := true, laidKinds := [.data, .mapped, .pinned], laidTests := true, laidLooks := .later }
def CoreChecksCardSaid : Prop := Claim7.holds Tryd.pinned (.plain (OpenSpec.ofChange coreChecksSpec)) coreChecksCard

/-- THE TIED CARD OF 'pleacherlaw.RelUniques'. -/
def relUniquesCard : Claim7 := { stood := { row := relUniquesRow, standIns := [], harness := (true, "b13989b6fc63fa70ba6dfa35fe80cafa50b2e91b5dcc9ac06518a95f3687316c"), looks := false }, kinds := [], alts := [], laidByText := true, laidKinds := [.data, .pinned], laidTests := true, laidLooks := .later }
def RelUniquesCardSaid : Prop := Claim7.holds Tryd.pinned (.plain (OpenSpec.ofChange relUniquesSpec)) relUniquesCard

/-- THE TIED CARD OF 'pleacherlaw.RelExcepts'. -/
def relExceptsCard : Claim7 := { stood := { row := relExceptsRow, standIns := [], harness := (true, "b13989b6fc63fa70ba6dfa35fe80cafa50b2e91b5dcc9ac06518a95f3687316c"), looks := false }, kinds := [], alts := [], laidByText := true, laidKinds := [.data, .pinned], laidTests := true, laidLooks := .later }
def RelExceptsCardSaid : Prop := Claim7.holds Tryd.pinned (.plain (OpenSpec.ofChange relExceptsSpec)) relExceptsCard

/-- THE TIED CARD OF 'pleacherlaw.XmlEscapes'. -/
def xmlEscapesCard : Claim7 := { stood := { row := xmlEscapesRow, standIns := [], harness := (true, "b13989b6fc63fa70ba6dfa35fe80cafa50b2e91b5dcc9ac06518a95f3687316c"), looks := false }, kinds := [], alts := [], laidByText := true, laidKinds := [.data, .data, .pinned], laidTests := true, laidLooks := .later }
def XmlEscapesCardSaid : Prop := Claim7.holds Tryd.pinned (.plain (OpenSpec.ofChange xmlEscapesSpec)) xmlEscapesCard

/-- THE TIED CARD OF 'pleacherlaw.XmlChecks'. -/
def xmlChecksCard : Claim7 := { stood := { row := xmlChecksRow, standIns := [], harness := (true, "b13989b6fc63fa70ba6dfa35fe80cafa50b2e91b5dcc9ac06518a95f3687316c"), looks := false }, kinds := [], alts := [], laidByText := true, laidKinds := [.data, .pinned], laidTests := true, laidLooks := .later }
def XmlChecksCardSaid : Prop := Claim7.holds Tryd.pinned (.plain (OpenSpec.ofChange xmlChecksSpec)) xmlChecksCard

/-- THE TIED CARD OF 'pleacherlaw.StoreShreds'. -/
def storeShredsCard : Claim7 := { stood := { row := storeShredsRow, standIns := [], harness := (true, "b13989b6fc63fa70ba6dfa35fe80cafa50b2e91b5dcc9ac06518a95f3687316c"), looks := false }, kinds := [], alts := [], laidByText := true, laidKinds := [.data, .pinned], laidTests := true, laidLooks := .later }
def StoreShredsCardSaid : Prop := Claim7.holds Tryd.pinned (.plain (OpenSpec.ofChange storeShredsSpec)) storeShredsCard

/-- THE TIED CARD OF 'pleacherlaw.RelSorts'. -/
def relSortsCard : Claim7 := { stood := { row := relSortsRow, standIns := [], harness := (true, "b13989b6fc63fa70ba6dfa35fe80cafa50b2e91b5dcc9ac06518a95f3687316c"), looks := false }, kinds := [], alts := [], laidByText := true, laidKinds := [.data, .pinned], laidTests := true, laidLooks := .later }
def RelSortsCardSaid : Prop := Claim7.holds Tryd.pinned (.plain (OpenSpec.ofChange relSortsSpec)) relSortsCard

/-- THE TIED CARD OF 'pleacherlaw.RelRanks'. -/
def relRanksCard : Claim7 := { stood := { row := relRanksRow, standIns := [], harness := (true, "b13989b6fc63fa70ba6dfa35fe80cafa50b2e91b5dcc9ac06518a95f3687316c"), looks := false }, kinds := [], alts := [], laidByText := true, laidKinds := [.data, .pinned], laidTests := true, laidLooks := .later }
def RelRanksCardSaid : Prop := Claim7.holds Tryd.pinned (.plain (OpenSpec.ofChange relRanksSpec)) relRanksCard

/-- THE TIED CARD OF 'pleacherlaw.XmlShows'. -/
def xmlShowsCard : Claim7 := { stood := { row := xmlShowsRow, standIns := [], harness := (true, "b13989b6fc63fa70ba6dfa35fe80cafa50b2e91b5dcc9ac06518a95f3687316c"), looks := false }, kinds := [], alts := [], laidByText := true, laidKinds := [.data, .data, .pinned], laidTests := true, laidLooks := .later }
def XmlShowsCardSaid : Prop := Claim7.holds Tryd.pinned (.plain (OpenSpec.ofChange xmlShowsSpec)) xmlShowsCard

/-- THE TIED CARD OF 'pleacherlaw.XmlParses'. -/
def xmlParsesCard : Claim7 := { stood := { row := xmlParsesRow, standIns := [], harness := (true, "b13989b6fc63fa70ba6dfa35fe80cafa50b2e91b5dcc9ac06518a95f3687316c"), looks := false }, kinds := [], alts := [], laidByText := true, laidKinds := [.data, .data, .pinned], laidTests := true, laidLooks := .later }
def XmlParsesCardSaid : Prop := Claim7.holds Tryd.pinned (.plain (OpenSpec.ofChange xmlParsesSpec)) xmlParsesCard

/-- THE SECOND FORM's CARD OF 'pleacherlaw.RelGroups'. -/
def relGroupsUptoCard : Claim7 := { stood := { row := relGroupsUptoRow, standIns := [], harness := (true, "b13989b6fc63fa70ba6dfa35fe80cafa50b2e91b5dcc9ac06518a95f3687316c"), looks := false }, kinds := [], alts := [], laidByText := true, laidKinds := [.data, .pinned], laidTests := true, laidLooks := .later }
def RelGroupsUptoCardSaid : Prop := Claim7.holds Tryd.pinned (.plain (OpenSpec.upto relGroupsSpec)) relGroupsUptoCard

/-- THE SECOND FORM's CARD OF 'pleacherlaw.RelJoins'. -/
def relJoinsUptoCard : Claim7 := { stood := { row := relJoinsUptoRow, standIns := [], harness := (true, "b13989b6fc63fa70ba6dfa35fe80cafa50b2e91b5dcc9ac06518a95f3687316c"), looks := false }, kinds := [], alts := [], laidByText := true, laidKinds := [.data, .pinned], laidTests := true, laidLooks := .later }
def RelJoinsUptoCardSaid : Prop := Claim7.holds Tryd.pinned (.plain (OpenSpec.upto relJoinsSpec)) relJoinsUptoCard

/-- THE SECOND FORM's CARD OF 'pleacherlaw.CoreChecks'. -/
def coreChecksUptoCard : Claim7 := { stood := { row := coreChecksUptoRow, standIns := [], harness := (true, "b13989b6fc63fa70ba6dfa35fe80cafa50b2e91b5dcc9ac06518a95f3687316c"), looks := false }, kinds := [], alts := [], laidByText := true, laidKinds := [.data, .mapped, .pinned], laidTests := true, laidLooks := .later }
def CoreChecksUptoCardSaid : Prop := Claim7.holds Tryd.pinned (.plain (OpenSpec.upto coreChecksSpec)) coreChecksUptoCard

/-- THE SECOND FORM's CARD OF 'pleacherlaw.RelUniques'. -/
def relUniquesUptoCard : Claim7 := { stood := { row := relUniquesUptoRow, standIns := [], harness := (true, "b13989b6fc63fa70ba6dfa35fe80cafa50b2e91b5dcc9ac06518a95f3687316c"), looks := false }, kinds := [], alts := [], laidByText := true, laidKinds := [.data, .pinned], laidTests := true, laidLooks := .later }
def RelUniquesUptoCardSaid : Prop := Claim7.holds Tryd.pinned (.plain (OpenSpec.upto relUniquesSpec)) relUniquesUptoCard

/-- THE SECOND FORM's CARD OF 'pleacherlaw.RelExcepts'. -/
def relExceptsUptoCard : Claim7 := { stood := { row := relExceptsUptoRow, standIns := [], harness := (true, "b13989b6fc63fa70ba6dfa35fe80cafa50b2e91b5dcc9ac06518a95f3687316c"), looks := false }, kinds := [], alts := [], laidByText := true, laidKinds := [.data, .pinned], laidTests := true, laidLooks := .later }
def RelExceptsUptoCardSaid : Prop := Claim7.holds Tryd.pinned (.plain (OpenSpec.upto relExceptsSpec)) relExceptsUptoCard

/-- THE SECOND FORM's CARD OF 'pleacherlaw.XmlEscapes'. -/
def xmlEscapesUptoCard : Claim7 := { stood := { row := xmlEscapesUptoRow, standIns := [], harness := (true, "b13989b6fc63fa70ba6dfa35fe80cafa50b2e91b5dcc9ac06518a95f3687316c"), looks := false }, kinds := [], alts := [], laidByText := true, laidKinds := [.data, .data, .pinned], laidTests := true, laidLooks := .later }
def XmlEscapesUptoCardSaid : Prop := Claim7.holds Tryd.pinned (.plain (OpenSpec.upto xmlEscapesSpec)) xmlEscapesUptoCard

/-- THE SECOND FORM's CARD OF 'pleacherlaw.XmlChecks'. -/
def xmlChecksUptoCard : Claim7 := { stood := { row := xmlChecksUptoRow, standIns := [], harness := (true, "b13989b6fc63fa70ba6dfa35fe80cafa50b2e91b5dcc9ac06518a95f3687316c"), looks := false }, kinds := [], alts := [], laidByText := true, laidKinds := [.data, .pinned], laidTests := true, laidLooks := .later }
def XmlChecksUptoCardSaid : Prop := Claim7.holds Tryd.pinned (.plain (OpenSpec.upto xmlChecksSpec)) xmlChecksUptoCard

/-- THE SECOND FORM's CARD OF 'pleacherlaw.StoreShreds'. -/
def storeShredsUptoCard : Claim7 := { stood := { row := storeShredsUptoRow, standIns := [], harness := (true, "b13989b6fc63fa70ba6dfa35fe80cafa50b2e91b5dcc9ac06518a95f3687316c"), looks := false }, kinds := [], alts := [], laidByText := true, laidKinds := [.data, .pinned], laidTests := true, laidLooks := .later }
def StoreShredsUptoCardSaid : Prop := Claim7.holds Tryd.pinned (.plain (OpenSpec.upto storeShredsSpec)) storeShredsUptoCard

/-- THE SECOND FORM's CARD OF 'pleacherlaw.RelSorts'. -/
def relSortsUptoCard : Claim7 := { stood := { row := relSortsUptoRow, standIns := [], harness := (true, "b13989b6fc63fa70ba6dfa35fe80cafa50b2e91b5dcc9ac06518a95f3687316c"), looks := false }, kinds := [], alts := [], laidByText := true, laidKinds := [.data, .pinned], laidTests := true, laidLooks := .later }
def RelSortsUptoCardSaid : Prop := Claim7.holds Tryd.pinned (.plain (OpenSpec.upto relSortsSpec)) relSortsUptoCard

/-- THE SECOND FORM's CARD OF 'pleacherlaw.RelRanks'. -/
def relRanksUptoCard : Claim7 := { stood := { row := relRanksUptoRow, standIns := [], harness := (true, "b13989b6fc63fa70ba6dfa35fe80cafa50b2e91b5dcc9ac06518a95f3687316c"), looks := false }, kinds := [], alts := [], laidByText := true, laidKinds := [.data, .pinned], laidTests := true, laidLooks := .later }
def RelRanksUptoCardSaid : Prop := Claim7.holds Tryd.pinned (.plain (OpenSpec.upto relRanksSpec)) relRanksUptoCard

/-- THE SECOND FORM's CARD OF 'pleacherlaw.XmlShows'. -/
def xmlShowsUptoCard : Claim7 := { stood := { row := xmlShowsUptoRow, standIns := [], harness := (true, "b13989b6fc63fa70ba6dfa35fe80cafa50b2e91b5dcc9ac06518a95f3687316c"), looks := false }, kinds := [], alts := [], laidByText := true, laidKinds := [.data, .data, .pinned], laidTests := true, laidLooks := .later }
def XmlShowsUptoCardSaid : Prop := Claim7.holds Tryd.pinned (.plain (OpenSpec.upto xmlShowsSpec)) xmlShowsUptoCard

/-- THE SECOND FORM's CARD OF 'pleacherlaw.XmlParses'. -/
def xmlParsesUptoCard : Claim7 := { stood := { row := xmlParsesUptoRow, standIns := [], harness := (true, "b13989b6fc63fa70ba6dfa35fe80cafa50b2e91b5dcc9ac06518a95f3687316c"), looks := false }, kinds := [], alts := [], laidByText := true, laidKinds := [.data, .data, .pinned], laidTests := true, laidLooks := .later }
def XmlParsesUptoCardSaid : Prop := Claim7.holds Tryd.pinned (.plain (OpenSpec.upto xmlParsesSpec)) xmlParsesUptoCard
end Rows
end Go.Proofs.YtafbojmnmadlpaaDoor
