/-
  DERIVED. GIVEN WITH THE SEED: THE CARDS: each row of YtpgdflhcmijaiaaDoorRows.lean that lists a variable, with what it lists TIED to the program's text (the seventh form; the later family's looks); each row that meets fmt, with fmt's text TOLD by the authors' own Lean function (tested against real Go, not proved from fmt's source: count such statements apart). THE CARD IS WHAT COUNTS. Prove the row's statement (the work); the ties are given (YtpgdflhcmijaiaaDoorTie.lean); close each card by the builder's one call (the guide's Derived/Test/ToyasCard.lean, 'card_holds'). Laid BY PROGRAM, IN A SANDBOX (cutbox-door.mjs). By AI agents, Wed Nov 11 2026. No macro, syntax, notation, axiom, sorry.
-/
import Derived.Test.YtpgdflhcmijaiaaDoorRows
import GoSem.ClaimSeven
namespace Go.Proofs.YtpgdflhcmijaiaaDoor
namespace Rows

/-- THE TIED CARD OF 'pleacherlaw.RelSorts'. -/
def relSortsCard : Claim7 := { stood := { row := relSortsRow, standIns := [], harness := (true, "4a0b38c5341cdd16111da9ce3e66f53129cee3a142c79157deb2e7458e14ccfd"), looks := false }, kinds := [], alts := [], laidByText := true, laidKinds := [.data, .pinned], laidTests := true, laidLooks := .later }
def RelSortsCardSaid : Prop := Claim7.holds Tryd.pinned (.plain (OpenSpec.ofChange relSortsSpec)) relSortsCard

/-- THE TIED CARD OF 'pleacherlaw.RelRanks'. -/
def relRanksCard : Claim7 := { stood := { row := relRanksRow, standIns := [], harness := (true, "4a0b38c5341cdd16111da9ce3e66f53129cee3a142c79157deb2e7458e14ccfd"), looks := false }, kinds := [], alts := [], laidByText := true, laidKinds := [.data, .pinned], laidTests := true, laidLooks := .later }
def RelRanksCardSaid : Prop := Claim7.holds Tryd.pinned (.plain (OpenSpec.ofChange relRanksSpec)) relRanksCard

/-- THE TIED CARD OF 'pleacherlaw.StairWalks'. -/
def stairWalksCard : Claim7 := { stood := { row := stairWalksRow, standIns := [], harness := (true, "4a0b38c5341cdd16111da9ce3e66f53129cee3a142c79157deb2e7458e14ccfd"), looks := false }, kinds := [], alts := [], laidByText := true, laidKinds := [.data, .pinned], laidTests := true, laidLooks := .later }
def StairWalksCardSaid : Prop := Claim7.holds Tryd.pinned (.plain (OpenSpec.ofChange stairWalksSpec)) stairWalksCard

/-- THE SECOND FORM's CARD OF 'pleacherlaw.RelSorts'. -/
def relSortsUptoCard : Claim7 := { stood := { row := relSortsUptoRow, standIns := [], harness := (true, "4a0b38c5341cdd16111da9ce3e66f53129cee3a142c79157deb2e7458e14ccfd"), looks := false }, kinds := [], alts := [], laidByText := true, laidKinds := [.data, .pinned], laidTests := true, laidLooks := .later }
def RelSortsUptoCardSaid : Prop := Claim7.holds Tryd.pinned (.plain (OpenSpec.upto relSortsSpec)) relSortsUptoCard

/-- THE SECOND FORM's CARD OF 'pleacherlaw.RelRanks'. -/
def relRanksUptoCard : Claim7 := { stood := { row := relRanksUptoRow, standIns := [], harness := (true, "4a0b38c5341cdd16111da9ce3e66f53129cee3a142c79157deb2e7458e14ccfd"), looks := false }, kinds := [], alts := [], laidByText := true, laidKinds := [.data, .pinned], laidTests := true, laidLooks := .later }
def RelRanksUptoCardSaid : Prop := Claim7.holds Tryd.pinned (.plain (OpenSpec.upto relRanksSpec)) relRanksUptoCard

/-- THE SECOND FORM's CARD OF 'pleacherlaw.StairWalks'. -/
def stairWalksUptoCard : Claim7 := { stood := { row := stairWalksUptoRow, standIns := [], harness := (true, "4a0b38c5341cdd16111da9ce3e66f53129cee3a142c79157deb2e7458e14ccfd"), looks := false }, kinds := [], alts := [], laidByText := true, laidKinds := [.data, .pinned], laidTests := true, laidLooks := .later }
def StairWalksUptoCardSaid : Prop := Claim7.holds Tryd.pinned (.plain (OpenSpec.upto stairWalksSpec)) stairWalksUptoCard
end Rows
end Go.Proofs.YtpgdflhcmijaiaaDoor
