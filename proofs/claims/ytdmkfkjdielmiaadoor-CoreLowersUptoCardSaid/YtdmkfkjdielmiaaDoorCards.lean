/-
  DERIVED. GIVEN WITH THE SEED: THE CARDS: each row of YtdmkfkjdielmiaaDoorRows.lean that lists a variable, with what it lists TIED to the program's text (the seventh form; the later family's looks); each row that meets fmt, with fmt's text TOLD by the authors' own Lean function (tested against real Go, not proved from fmt's source: count such statements apart). THE CARD IS WHAT COUNTS. Prove the row's statement (the work); the ties are given (YtdmkfkjdielmiaaDoorTie.lean); close each card by the builder's one call (the guide's Derived/Test/ToyasCard.lean, 'card_holds'). Laid BY PROGRAM, IN A SANDBOX (cutbox-door.mjs). By AI agents, Wed Nov 11 2026. No macro, syntax, notation, axiom, sorry.
-/
import Derived.Test.YtdmkfkjdielmiaaDoorRows
import GoSem.ClaimSeven
namespace Go.Proofs.YtdmkfkjdielmiaaDoor
namespace Rows

/-- THE TIED CARD OF 'pleacherlaw.CoreLowers'. -/
def coreLowersCard : Claim7 := { stood := { row := coreLowersRow, standIns := [], harness := (true, "83bf20b3fd0763dd3e9c89fed81bd7b33e4c341fd5170f527826f5d0a45fd720"), looks := false }, kinds := [], alts := [], laidByText := true, laidKinds := [.data, .mapped, .mapped, .mapped, .pinned], laidTests := true, laidLooks := .later }
def CoreLowersCardSaid : Prop := Claim7.holds Tryd.pinned (.plain (OpenSpec.ofChange coreLowersSpec)) coreLowersCard

/-- THE TIED CARD OF 'pleacherlaw.ReadParses'. -/
def readParsesCard : Claim7 := { stood := { row := readParsesRow, standIns := [], harness := (true, "83bf20b3fd0763dd3e9c89fed81bd7b33e4c341fd5170f527826f5d0a45fd720"), looks := false }, kinds := [], alts := [], laidByText := true, laidKinds := [.data, .widerDeep, .widerDeep, .data, .pinned], laidTests := true, laidLooks := .later }
def ReadParsesCardSaid : Prop := Claim7.holds Tryd.pinned (.plain (OpenSpec.ofChange readParsesSpec)) readParsesCard

/-- THE TIED CARD OF 'pleacherlaw.QueryShows'. -/
def queryShowsCard : Claim7 := { stood := { row := queryShowsRow, standIns := [], harness := (true, "83bf20b3fd0763dd3e9c89fed81bd7b33e4c341fd5170f527826f5d0a45fd720"), looks := false }, kinds := [], alts := [], laidByText := true, laidKinds := [.data, .data, .data, .data, .data, .pinned], laidTests := true, laidLooks := .later }
def QueryShowsCardSaid : Prop := Claim7.holds Tryd.pinned (.plain (OpenSpec.ofChange queryShowsSpec)) queryShowsCard

/-- THE SECOND FORM's CARD OF 'pleacherlaw.CoreLowers'. -/
def coreLowersUptoCard : Claim7 := { stood := { row := coreLowersUptoRow, standIns := [], harness := (true, "83bf20b3fd0763dd3e9c89fed81bd7b33e4c341fd5170f527826f5d0a45fd720"), looks := false }, kinds := [], alts := [], laidByText := true, laidKinds := [.data, .mapped, .mapped, .mapped, .pinned], laidTests := true, laidLooks := .later }
def CoreLowersUptoCardSaid : Prop := Claim7.holds Tryd.pinned (.plain (OpenSpec.upto coreLowersSpec)) coreLowersUptoCard

/-- THE SECOND FORM's CARD OF 'pleacherlaw.ReadParses'. -/
def readParsesUptoCard : Claim7 := { stood := { row := readParsesUptoRow, standIns := [], harness := (true, "83bf20b3fd0763dd3e9c89fed81bd7b33e4c341fd5170f527826f5d0a45fd720"), looks := false }, kinds := [], alts := [], laidByText := true, laidKinds := [.data, .widerDeep, .widerDeep, .data, .pinned], laidTests := true, laidLooks := .later }
def ReadParsesUptoCardSaid : Prop := Claim7.holds Tryd.pinned (.plain (OpenSpec.upto readParsesSpec)) readParsesUptoCard

/-- THE SECOND FORM's CARD OF 'pleacherlaw.QueryShows'. -/
def queryShowsUptoCard : Claim7 := { stood := { row := queryShowsUptoRow, standIns := [], harness := (true, "83bf20b3fd0763dd3e9c89fed81bd7b33e4c341fd5170f527826f5d0a45fd720"), looks := false }, kinds := [], alts := [], laidByText := true, laidKinds := [.data, .data, .data, .data, .data, .pinned], laidTests := true, laidLooks := .later }
def QueryShowsUptoCardSaid : Prop := Claim7.holds Tryd.pinned (.plain (OpenSpec.upto queryShowsSpec)) queryShowsUptoCard
end Rows
end Go.Proofs.YtdmkfkjdielmiaaDoor
