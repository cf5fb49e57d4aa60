/-
  DERIVED. GIVEN WITH THE SEED: THE CARDS: each row of YtjmofmianlefdaaDoorRows.lean that lists a variable, with what it lists TIED to the program's text (the seventh form; the later family's looks); each row that meets fmt, with fmt's text TOLD by the authors' own Lean function (tested against real Go, not proved from fmt's source: count such statements apart). THE CARD IS WHAT COUNTS. Prove the row's statement (the work); the ties are given (YtjmofmianlefdaaDoorTie.lean); close each card by the builder's one call (the guide's Derived/Test/ToyasCard.lean, 'card_holds'). Laid BY PROGRAM, IN A SANDBOX (cutbox-door.mjs). By AI agents, Wed Nov 11 2026. No macro, syntax, notation, axiom, sorry.
-/
import Derived.Test.YtjmofmianlefdaaDoorRows
import GoSem.ClaimSeven
namespace Go.Proofs.YtjmofmianlefdaaDoor
namespace Rows

/-- THE TIED CARD OF 'pleacherlaw.CoreChecks'. -/
def coreChecksCard : Claim7 := { stood := { row := coreChecksRow, standIns := [], harness := (true, "7eef26ed7ff3107acffe13232018de308e4c8e6cf1244b4585d1ccea72374e64"), looks := false }, kinds := [], alts := [], laidByText := true, laidKinds := [.data, .mapped, .pinned], laidTests := true, laidLooks := .later }
def CoreChecksCardSaid : Prop := Claim7.holds Tryd.pinned (.plain (OpenSpec.ofChange coreChecksSpec)) coreChecksCard

/-- THE TIED CARD OF 'pleacherlaw.ReadTokens'. -/
def readTokensCard : Claim7 := { stood := { row := readTokensRow, standIns := [], harness := (true, "7eef26ed7ff3107acffe13232018de308e4c8e6cf1244b4585d1ccea72374e64"), looks := false }, kinds := [], alts := [], laidByText := true, laidKinds := [.data, .widerDeep, .pinned], laidTests := true, laidLooks := .later }
def ReadTokensCardSaid : Prop := Claim7.holds Tryd.pinned (.plain (OpenSpec.ofChange readTokensSpec)) readTokensCard

/-- THE TIED CARD OF 'pleacherlaw.CoreLowers'. -/
def coreLowersCard : Claim7 := { stood := { row := coreLowersRow, standIns := [], harness := (true, "7eef26ed7ff3107acffe13232018de308e4c8e6cf1244b4585d1ccea72374e64"), looks := false }, kinds := [], alts := [], laidByText := true, laidKinds := [.data, .mapped, .mapped, .mapped, .pinned], laidTests := true, laidLooks := .later }
def CoreLowersCardSaid : Prop := Claim7.holds Tryd.pinned (.plain (OpenSpec.ofChange coreLowersSpec)) coreLowersCard

/-- THE TIED CARD OF 'pleacherlaw.ReadParses'. -/
def readParsesCard : Claim7 := { stood := { row := readParsesRow, standIns := [], harness := (true, "7eef26ed7ff3107acffe13232018de308e4c8e6cf1244b4585d1ccea72374e64"), looks := false }, kinds := [], alts := [], laidByText := true, laidKinds := [.data, .widerDeep, .widerDeep, .data, .pinned], laidTests := true, laidLooks := .later }
def ReadParsesCardSaid : Prop := Claim7.holds Tryd.pinned (.plain (OpenSpec.ofChange readParsesSpec)) readParsesCard

/-- THE SECOND FORM's CARD OF 'pleacherlaw.CoreChecks'. -/
def coreChecksUptoCard : Claim7 := { stood := { row := coreChecksUptoRow, standIns := [], harness := (true, "7eef26ed7ff3107acffe13232018de308e4c8e6cf1244b4585d1ccea72374e64"), looks := false }, kinds := [], alts := [], laidByText := true, laidKinds := [.data, .mapped, .pinned], laidTests := true, laidLooks := .later }
def CoreChecksUptoCardSaid : Prop := Claim7.holds Tryd.pinned (.plain (OpenSpec.upto coreChecksSpec)) coreChecksUptoCard

/-- THE SECOND FORM's CARD OF 'pleacherlaw.ReadTokens'. -/
def readTokensUptoCard : Claim7 := { stood := { row := readTokensUptoRow, standIns := [], harness := (true, "7eef26ed7ff3107acffe13232018de308e4c8e6cf1244b4585d1ccea72374e64"), looks := false }, kinds := [], alts := [], laidByText := true, laidKinds := [.data, .widerDeep, .pinned], laidTests := true, laidLooks := .later }
def ReadTokensUptoCardSaid : Prop := Claim7.holds Tryd.pinned (.plain (OpenSpec.upto readTokensSpec)) readTokensUptoCard

/-- THE SECOND FORM's CARD OF 'pleacherlaw.CoreLowers'. -/
def coreLowersUptoCard : Claim7 := { stood := { row := coreLowersUptoRow, standIns := [], harness := (true, "7eef26ed7ff3107acffe13232018de308e4c8e6cf1244b4585d1ccea72374e64"), looks := false }, kinds := [], alts := [], laidByText := true, laidKinds := [.data, .mapped, .mapped, .mapped, .pinned], laidTests := true, laidLooks := .later }
def CoreLowersUptoCardSaid : Prop := Claim7.holds Tryd.pinned (.plain (OpenSpec.upto coreLowersSpec)) coreLowersUptoCard

/-- THE SECOND FORM's CARD OF 'pleacherlaw.ReadParses'. -/
def readParsesUptoCard : Claim7 := { stood := { row := readParsesUptoRow, standIns := [], harness := (true, "7eef26ed7ff3107acffe13232018de308e4c8e6cf1244b4585d1ccea72374e64"), looks := false }, kinds := [], alts := [], laidByText := true, laidKinds := [.data, .widerDeep, .widerDeep, .data, .pinned], laidTests := true, laidLooks := .later }
def ReadParsesUptoCardSaid : Prop := Claim7.holds Tryd.pinned (.plain (OpenSpec.upto readParsesSpec)) readParsesUptoCard
end Rows
end Go.Proofs.YtjmofmianlefdaaDoor
