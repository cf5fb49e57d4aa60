/-
  DERIVED. GIVEN WITH THE SEED: THE CARDS: each row of YtjghnaohlfgloaaDoorRows.lean that lists a variable, with what it lists TIED to the program's text (the seventh form; the later family's looks); each row that meets fmt, with fmt's text TOLD by the authors' own Lean function (tested against real Go, not proved from fmt's source: count such statements apart). THE CARD IS WHAT COUNTS. Prove the row's statement (the work); the ties are given (YtjghnaohlfgloaaDoorTie.lean); close each card by the builder's one call (the guide's Derived/Test/ToyasCard.lean, 'card_holds'). Laid BY PROGRAM, IN A SANDBOX (cutbox-door.mjs). By AI agents, Wed Nov 11 2026. No macro, syntax, notation, axiom, sorry.
-/
import Derived.Test.YtjghnaohlfgloaaDoorRows
import GoSem.ClaimSeven
namespace Go.Proofs.YtjghnaohlfgloaaDoor
namespace Rows

/-- THE TIED CARD OF 'pleacherlaw.CoreChecks'. -/
def coreChecksCard : Claim7 := { stood := { row := coreChecksRow, standIns := [], harness := (true, "546f875114e3f7469630f29beeff152bd03c20d49d667cdc7dcd5249c59307c5"), looks := false }, kinds := [], alts := [], laidByText := true, laidKinds := [.data, .mapped, .pinned], laidTests := true, laidLooks := .later }
def CoreChecksCardSaid : Prop := Claim7.holds Tryd.pinned (.plain (OpenSpec.ofChange coreChecksSpec)) coreChecksCard

/-- THE TIED CARD OF 'pleacherlaw.RelSorts'. -/
def relSortsCard : Claim7 := { stood := { row := relSortsRow, standIns := [], harness := (true, "546f875114e3f7469630f29beeff152bd03c20d49d667cdc7dcd5249c59307c5"), looks := false }, kinds := [], alts := [], laidByText := true, laidKinds := [.data, .pinned], laidTests := true, laidLooks := .later }
def RelSortsCardSaid : Prop := Claim7.holds Tryd.pinned (.plain (OpenSpec.ofChange relSortsSpec)) relSortsCard

/-- THE TIED CARD OF 'pleacherlaw.RelRanks'. -/
def relRanksCard : Claim7 := { stood := { row := relRanksRow, standIns := [], harness := (true, "546f875114e3f7469630f29beeff152bd03c20d49d667cdc7dcd5249c59307c5"), looks := false }, kinds := [], alts := [], laidByText := true, laidKinds := [.data, .pinned], laidTests := true, laidLooks := .later }
def RelRanksCardSaid : Prop := Claim7.holds Tryd.pinned (.plain (OpenSpec.ofChange relRanksSpec)) relRanksCard

/-- THE TIED CARD OF 'pleacherlaw.XmlParses'. -/
def xmlParsesCard : Claim7 := { stood := { row := xmlParsesRow, standIns := [], harness := (true, "546f875114e3f7469630f29beeff152bd03c20d49d667cdc7dcd5249c59307c5"), looks := false }, kinds := [], alts := [], laidByText := true, laidKinds := [.data, .data, .pinned], laidTests := true, laidLooks := .later }
def XmlParsesCardSaid : Prop := Claim7.holds Tryd.pinned (.plain (OpenSpec.ofChange xmlParsesSpec)) xmlParsesCard

/-- THE TIED CARD OF 'pleacherlaw.StairWalks'. -/
def stairWalksCard : Claim7 := { stood := { row := stairWalksRow, standIns := [], harness := (true, "546f875114e3f7469630f29beeff152bd03c20d49d667cdc7dcd5249c59307c5"), looks := false }, kinds := [], alts := [], laidByText := true, laidKinds := [.data, .pinned], laidTests := true, laidLooks := .later }
def StairWalksCardSaid : Prop := Claim7.holds Tryd.pinned (.plain (OpenSpec.ofChange stairWalksSpec)) stairWalksCard

/-- THE SECOND FORM's CARD OF 'pleacherlaw.CoreChecks'. -/
def coreChecksUptoCard : Claim7 := { stood := { row := coreChecksUptoRow, standIns := [], harness := (true, "546f875114e3f7469630f29beeff152bd03c20d49d667cdc7dcd5249c59307c5"), looks := false }, kinds := [], alts := [], laidByText := true, laidKinds := [.data, .mapped, .pinned], laidTests := true, laidLooks := .later }
def CoreChecksUptoCardSaid : Prop := Claim7.holds Tryd.pinned (.plain (OpenSpec.upto coreChecksSpec)) coreChecksUptoCard

/-- THE SECOND FORM's CARD OF 'pleacherlaw.RelSorts'. -/
def relSortsUptoCard : Claim7 := { stood := { row := relSortsUptoRow, standIns := [], harness := (true, "546f875114e3f7469630f29beeff152bd03c20d49d667cdc7dcd5249c59307c5"), looks := false }, kinds := [], alts := [], laidByText := true, laidKinds := [.data, .pinned], laidTests := true, laidLooks := .later }
def RelSortsUptoCardSaid : Prop := Claim7.holds Tryd.pinned (.plain (OpenSpec.upto relSortsSpec)) relSortsUptoCard

/-- THE SECOND FORM's CARD OF 'pleacherlaw.RelRanks'. -/
def relRanksUptoCard : Claim7 := { stood := { row := relRanksUptoRow, standIns := [], harness := (true, "546f875114e3f7469630f29beeff152bd03c20d49d667cdc7dcd5249c59307c5"), looks := false }, kinds := [], alts := [], laidByText := true, laidKinds := [.data, .pinned], laidTests := true, laidLooks := .later }
def RelRanksUptoCardSaid : Prop := Claim7.holds Tryd.pinned (.plain (OpenSpec.upto relRanksSpec)) relRanksUptoCard

/-- THE SECOND FORM's CARD OF 'pleacherlaw.XmlParses'. -/
def xmlParsesUptoCard : Claim7 := { stood := { row := xmlParsesUptoRow, standIns := [], harness := (true, "546f875114e3f7469630f29beeff152bd03c20d49d667cdc7dcd5249c59307c5"), looks := false }, kinds := [], alts := [], laidByText := true, laidKinds := [.data, .data, .pinned], laidTests := true, laidLooks := .later }
def XmlParsesUptoCardSaid : Prop := Claim7.holds Tryd.pinned (.plain (OpenSpec.upto xmlParsesSpec)) xmlParsesUptoCard

/-- THE SECOND FORM's CARD OF 'pleacherlaw.StairWalks'. -/
def stairWalksUptoCard : Claim7 := { stood := { row := stairWalksUptoRow, standIns := [], harness := (true, "546f875114e3f7469630f29beeff152bd03c20d49d667cdc7dcd5249c59307c5"), looks := false }, kinds := [], alts := [], laidByText := true, laidKinds := [.data, .pinned], laidTests := true, laidLooks := .later }
def StairWalksUptoCardSaid : Prop := Claim7.holds Tryd.pinned (.plain (OpenSpec.upto stairWalksSpec)) stairWalksUptoCard
end Rows
end Go.Proofs.YtjghnaohlfgloaaDoor
