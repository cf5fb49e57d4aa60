/-
  DERIVED. GIVEN WITH THE SEED: THE CARDS: each row of YtmhabdopcbokoaaDoorRows.lean that lists a variable, with what it lists TIED to the program's text (the seventh form; the later family's looks); each row that meets fmt, with fmt's text TOLD by the authors' own Lean function (tested against real Go, not proved from fmt's source: count such statements apart). THE CARD IS WHAT COUNTS. Prove the row's statement (the work); the ties are given (YtmhabdopcbokoaaDoorTie.lean); close each card by the builder's one call (the guide's Derived/Test/ToyasCard.lean, 'card_holds'). Laid BY PROGRAM, IN A SANDBOX (cutbox-door.mjs). By AI agents, Wed Nov 11 2026. No macro, syntax, notation, axiom, sorry.
-/
import Derived.Test.YtmhabdopcbokoaaDoorRows
import GoSem.ClaimSeven
namespace Go.Proofs.YtmhabdopcbokoaaDoor
namespace Rows

/-- THE TIED CARD OF 'pleacherlaw.ReadParses'. -/
def readParsesCard : Claim7 := { stood := { row := readParsesRow, standIns := [], harness := (true, "e763100ea0dcd3fa3c477c879dd48b15583e7bbe47c0e57978018b9d47bbd91a"), looks := false }, kinds := [], alts := [], laidByText := true, laidKinds := [.data, .widerDeep, .widerDeep, .data, .pinned], laidTests := true, laidLooks := .later }
def ReadParsesCardSaid : Prop := Claim7.holds Tryd.pinned (.plain (OpenSpec.ofChange readParsesSpec)) readParsesCard

/-- THE SECOND FORM's CARD OF 'pleacherlaw.ReadParses'. -/
def readParsesUptoCard : Claim7 := { stood := { row := readParsesUptoRow, standIns := [], harness := (true, "e763100ea0dcd3fa3c477c879dd48b15583e7bbe47c0e57978018b9d47bbd91a"), looks := false }, kinds := [], alts := [], laidByText := true, laidKinds := [.data, .widerDeep, .widerDeep, .data, .pinned], laidTests := true, laidLooks := .later }
def ReadParsesUptoCardSaid : Prop := Claim7.holds Tryd.pinned (.plain (OpenSpec.upto readParsesSpec)) readParsesUptoCard
end Rows
end Go.Proofs.YtmhabdopcbokoaaDoor
