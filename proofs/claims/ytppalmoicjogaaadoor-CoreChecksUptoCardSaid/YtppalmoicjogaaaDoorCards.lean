/-
  DERIVED. GIVEN WITH THE SEED: THE CARDS: each row of YtppalmoicjogaaaDoorRows.lean that lists a variable, with what it lists TIED to the program's text (the seventh form; the later family's looks); each row that meets fmt, with fmt's text TOLD by the authors' own Lean function (tested against real Go, not proved from fmt's source: count such statements apart). THE CARD IS WHAT COUNTS. Prove the row's statement (the work); the ties are given (YtppalmoicjogaaaDoorTie.lean); close each card by the builder's one call (the guide's Derived/Test/ToyasCard.lean, 'card_holds'). Laid BY PROGRAM, IN A SANDBOX (cutbox-door.mjs). By AI agents, Wed Nov 11 2026. No macro, syntax, notation, axiom, sorry.
-/
import Derived.Test.YtppalmoicjogaaaDoorRows
import GoSem.ClaimSeven
namespace Go.Proofs.YtppalmoicjogaaaDoor
namespace Rows

/-- THE TIED CARD OF 'pleacherlaw.RunColumns'. -/
def runColumnsCard : Claim7 := { stood := { row := runColumnsRow, standIns := [], harness := (true, "54b7bb7b76c5fc5cdcc69afeab63d2ea7411982aa32edc9979d402c306746c13"), looks := false }, kinds := [], alts := [], laidByText := true, laidKinds := [.data, .data, .mapped, .pinned], laidTests := true, laidLooks := .later }
def RunColumnsCardSaid : Prop := Claim7.holds Tryd.pinned (.plain (OpenSpec.ofChange runColumnsSpec)) runColumnsCard

/-- THE TIED CARD OF 'pleacherlaw.CoreChecks'. -/
def coreChecksCard : Claim7 := { stood := { row := coreChecksRow, standIns := [], harness := (true, "54b7bb7b76c5fc5cdcc69afeab63d2ea7411982aa32edc9979d402c306746c13"), looks := false }, kinds := [], alts := [], laidByText := true, laidKinds := [.data, .mapped, .pinned], laidTests := true, laidLooks := .later }
def CoreChecksCardSaid : Prop := Claim7.holds Tryd.pinned (.plain (OpenSpec.ofChange coreChecksSpec)) coreChecksCard

/-- THE TIED CARD OF 'pleacherlaw.CoreLowers'. -/
def coreLowersCard : Claim7 := { stood := { row := coreLowersRow, standIns := [], harness := (true, "54b7bb7b76c5fc5cdcc69afeab63d2ea7411982aa32edc9979d402c306746c13"), looks := false }, kinds := [], alts := [], laidByText := true, laidKinds := [.data, .mapped, .mapped, .mapped, .pinned], laidTests := true, laidLooks := .later }
def CoreLowersCardSaid : Prop := Claim7.holds Tryd.pinned (.plain (OpenSpec.ofChange coreLowersSpec)) coreLowersCard

/-- THE SECOND FORM's CARD OF 'pleacherlaw.RunColumns'. -/
def runColumnsUptoCard : Claim7 := { stood := { row := runColumnsUptoRow, standIns := [], harness := (true, "54b7bb7b76c5fc5cdcc69afeab63d2ea7411982aa32edc9979d402c306746c13"), looks := false }, kinds := [], alts := [], laidByText := true, laidKinds := [.data, .data, .mapped, .pinned], laidTests := true, laidLooks := .later }
def RunColumnsUptoCardSaid : Prop := Claim7.holds Tryd.pinned (.plain (OpenSpec.upto runColumnsSpec)) runColumnsUptoCard

/-- THE SECOND FORM's CARD OF 'pleacherlaw.CoreChecks'. -/
def coreChecksUptoCard : Claim7 := { stood := { row := coreChecksUptoRow, standIns := [], harness := (true, "54b7bb7b76c5fc5cdcc69afeab63d2ea7411982aa32edc9979d402c306746c13"), looks := false }, kinds := [], alts := [], laidByText := true, laidKinds := [.data, .mapped, .pinned], laidTests := true, laidLooks := .later }
def CoreChecksUptoCardSaid : Prop := Claim7.holds Tryd.pinned (.plain (OpenSpec.upto coreChecksSpec)) coreChecksUptoCard

/-- THE SECOND FORM's CARD OF 'pleacherlaw.CoreLowers'. -/
def coreLowersUptoCard : Claim7 := { stood := { row := coreLowersUptoRow, standIns := [], harness := (true, "54b7bb7b76c5fc5cdcc69afeab63d2ea7411982aa32edc9979d402c306746c13"), looks := false }, kinds := [], alts := [], laidByText := true, laidKinds := [.data, .mapped, .mapped, .mapped, .pinned], laidTests := true, laidLooks := .later }
def CoreLowersUptoCardSaid : Prop := Claim7.holds Tryd.pinned (.plain (OpenSpec.upto coreLowersSpec)) coreLowersUptoCard
end Rows
end Go.Proofs.YtppalmoicjogaaaDoor
