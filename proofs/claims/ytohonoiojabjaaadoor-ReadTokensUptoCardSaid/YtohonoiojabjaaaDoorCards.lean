/-
  DERIVED. GIVEN WITH THE SEED: THE CARDS: each row of YtohonoiojabjaaaDoorRows.lean that lists a variable, with what it lists TIED to the program's text (the seventh form; the later family's looks); each row that meets fmt, with fmt's text TOLD by the authors' own Lean function (tested against real Go, not proved from fmt's source: count such statements apart). THE CARD IS WHAT COUNTS. Prove the row's statement (the work); the ties are given (YtohonoiojabjaaaDoorTie.lean); close each card by the builder's one call (the guide's Derived/Test/ToyasCard.lean, 'card_holds'). Laid BY PROGRAM, IN A SANDBOX (cutbox-door.mjs). By AI agents, Wed Nov 11 2026. No macro, syntax, notation, axiom, sorry.
-/
import Derived.Test.YtohonoiojabjaaaDoorRows
import GoSem.ClaimSeven
namespace Go.Proofs.YtohonoiojabjaaaDoor
namespace Rows

/-- THE TIED CARD OF 'pleacherlaw.StoreCopies'. -/
def storeCopiesCard : Claim7 := { stood := { row := storeCopiesRow, standIns := [], harness := (true, "572ec631a5f5ea1f99e0692a0813a40dc6863bb0e361abaca89d842e620fab8d"), looks := false }, kinds := [], alts := [], laidByText := true, laidKinds := [.data, .pinned], laidTests := true, laidLooks := .later }
def StoreCopiesCardSaid : Prop := Claim7.holds Tryd.pinned (.plain (OpenSpec.ofChange storeCopiesSpec)) storeCopiesCard

/-- THE TIED CARD OF 'pleacherlaw.RelCrosses'. -/
def relCrossesCard : Claim7 := { stood := { row := relCrossesRow, standIns := [], harness := (true, "572ec631a5f5ea1f99e0692a0813a40dc6863bb0e361abaca89d842e620fab8d"), looks := false }, kinds := [], alts := [], laidByText := true, laidKinds := [.data, .pinned], laidTests := true, laidLooks := .later }
def RelCrossesCardSaid : Prop := Claim7.holds Tryd.pinned (.plain (OpenSpec.ofChange relCrossesSpec)) relCrossesCard

/-- THE TIED CARD OF 'pleacherlaw.RelUnions'. -/
def relUnionsCard : Claim7 := { stood := { row := relUnionsRow, standIns := [], harness := (true, "572ec631a5f5ea1f99e0692a0813a40dc6863bb0e361abaca89d842e620fab8d"), looks := false }, kinds := [], alts := [], laidByText := true, laidKinds := [.data, .pinned], laidTests := true, laidLooks := .later }
def RelUnionsCardSaid : Prop := Claim7.holds Tryd.pinned (.plain (OpenSpec.ofChange relUnionsSpec)) relUnionsCard

/-- THE TIED CARD OF 'pleacherlaw.RelJoins'. -/
def relJoinsCard : Claim7 := { stood := { row := relJoinsRow, standIns := [], harness := (true, "572ec631a5f5ea1f99e0692a0813a40dc6863bb0e361abaca89d842e620fab8d"), looks := false }, kinds := [], alts := [], laidByText := true, laidKinds := [.data, .pinned], laidTests := true, laidLooks := .later }
def RelJoinsCardSaid : Prop := Claim7.holds Tryd.pinned (.plain (OpenSpec.ofChange relJoinsSpec)) relJoinsCard

/-- THE TIED CARD OF 'pleacherlaw.ReadTokens'. -/
def readTokensCard : Claim7 := { stood := { row := readTokensRow, standIns := [], harness := (true, "572ec631a5f5ea1f99e0692a0813a40dc6863bb0e361abaca89d842e620fab8d"), looks := false }, kinds := [], alts := [], laidByText := true, laidKinds := [.data, .widerDeep, .pinned], laidTests := true, laidLooks := .later }
def ReadTokensCardSaid : Prop := Claim7.holds Tryd.pinned (.plain (OpenSpec.ofChange readTokensSpec)) readTokensCard

/-- THE TIED CARD OF 'pleacherlaw.RelUniques'. -/
def relUniquesCard : Claim7 := { stood := { row := relUniquesRow, standIns := [], harness := (true, "572ec631a5f5ea1f99e0692a0813a40dc6863bb0e361abaca89d842e620fab8d"), looks := false }, kinds := [], alts := [], laidByText := true, laidKinds := [.data, .pinned], laidTests := true, laidLooks := .later }
def RelUniquesCardSaid : Prop := Claim7.holds Tryd.pinned (.plain (OpenSpec.ofChange relUniquesSpec)) relUniquesCard

/-- THE TIED CARD OF 'pleacherlaw.RelExcepts'. -/
def relExceptsCard : Claim7 := { stood := { row := relExceptsRow, standIns := [], harness := (true, "572ec631a5f5ea1f99e0692a0813a40dc6863bb0e361abaca89d842e620fab8d"), looks := false }, kinds := [], alts := [], laidByText := true, laidKinds := [.data, .pinned], laidTests := true, laidLooks := .later }
def RelExceptsCardSaid : Prop := Claim7.holds Tryd.pinned (.plain (OpenSpec.ofChange relExceptsSpec)) relExceptsCard

/-- THE SECOND FORM's CARD OF 'pleacherlaw.StoreCopies'. -/
def storeCopiesUptoCard : Claim7 := { stood := { row := storeCopiesUptoRow, standIns := [], harness := (true, "572ec631a5f5ea1f99e0692a0813a40dc6863bb0e361abaca89d842e620fab8d"), looks := false }, kinds := [], alts := [], laidByText := true, laidKinds := [.data, .pinned], laidTests := true, laidLooks := .later }
def StoreCopiesUptoCardSaid : Prop := Claim7.holds Tryd.pinned (.plain (OpenSpec.upto storeCopiesSpec)) storeCopiesUptoCard

/-- THE SECOND FORM's CARD OF 'pleacherlaw.RelCrosses'. -/
def relCrossesUptoCard : Claim7 := { stood := { row := relCrossesUptoRow, standIns := [], harness := (true, "572ec631a5f5ea1f99e0692a0813a40dc6863bb0e361abaca89d842e620fab8d"), looks := false }, kinds := [], alts := [], laidByText := true, laidKinds := [.data, .pinned], laidTests := true, laidLooks := .later }
def RelCrossesUptoCardSaid : Prop := Claim7.holds Tryd.pinned (.plain (OpenSpec.upto relCrossesSpec)) relCrossesUptoCard

/-- THE SECOND FORM's CARD OF 'pleacherlaw.RelUnions'. -/
def relUnionsUptoCard : Claim7 := { stood := { row := relUnionsUptoRow, standIns := [], harness := (true, "572ec631a5f5ea1f99e0692a0813a40dc6863bb0e361abaca89d842e620fab8d"), looks := false }, kinds := [], alts := [], laidByText := true, laidKinds := [.data, .pinned], laidTests := true, laidLooks := .later }
def RelUnionsUptoCardSaid : Prop := Claim7.holds Tryd.pinned (.plain (OpenSpec.upto relUnionsSpec)) relUnionsUptoCard

/-- THE SECOND FORM's CARD OF 'pleacherlaw.RelJoins'. -/
def relJoinsUptoCard : Claim7 := { stood := { row := relJoinsUptoRow, standIns := [], harness := (true, "572ec631a5f5ea1f99e0692a0813a40dc6863bb0e361abaca89d842e620fab8d"), looks := false }, kinds := [], alts := [], laidByText := true, laidKinds := [.data, .pinned], laidTests := true, laidLooks := .later }
def RelJoinsUptoCardSaid : Prop := Claim7.holds Tryd.pinned (.plain (OpenSpec.upto relJoinsSpec)) relJoinsUptoCard

/-- THE SECOND FORM's CARD OF 'pleacherlaw.ReadTokens'. -/
def readTokensUptoCard : Claim7 := { stood := { row := readTokensUptoRow, standIns := [], harness := (true, "572ec631a5f5ea1f99e0692a0813a40dc6863bb0e361abaca89d842e620fab8d"), looks := false }, kinds := [], alts := [], laidByText := true, laidKinds := [.data, .widerDeep, .pinned], laidTests := true, laidLooks := .later }
def ReadTokensUptoCardSaid : Prop := Claim7.holds Tryd.pinned (.plain (OpenSpec.upto readTokensSpec)) readTokensUptoCard

/-- THE SECOND FORM's CARD OF 'pleacherlaw.RelUniques'. -/
def relUniquesUptoCard : Claim7 := { stood := { row := relUniquesUptoRow, standIns := [], harness := (true, "572ec631a5f5ea1f99e0692a0813a40dc6863bb0e361abaca89d842e620fab8d"), looks := false }, kinds := [], alts := [], laidByText := true, laidKinds := [.data, .pinned], laidTests := true, laidLooks := .later }
def RelUniquesUptoCardSaid : Prop := Claim7.holds Tryd.pinned (.plain (OpenSpec.upto relUniquesSpec)) relUniquesUptoCard

/-- THE SECOND FORM's CARD OF 'pleacherlaw.RelExcepts'. -/
def relExceptsUptoCard : Claim7 := { stood := { row := relExceptsUptoRow, standIns := [], harness := (true, "572ec631a5f5ea1f99e0692a0813a40dc6863bb0e361abaca89d842e620fab8d"), looks := false }, kinds := [], alts := [], laidByText := true, laidKinds := [.data, .pinned], laidTests := true, laidLooks := .later }
def RelExceptsUptoCardSaid : Prop := Claim7.holds Tryd.pinned (.plain (OpenSpec.upto relExceptsSpec)) relExceptsUptoCard
end Rows
end Go.Proofs.YtohonoiojabjaaaDoor
