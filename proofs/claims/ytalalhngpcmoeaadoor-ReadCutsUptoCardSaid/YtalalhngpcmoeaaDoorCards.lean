/-
  DERIVED. GIVEN WITH THE SEED: THE CARDS: each row of YtalalhngpcmoeaaDoorRows.lean that lists a variable, with what it lists TIED to the program's text (the seventh form; the later family's looks); each row that meets fmt, with fmt's text TOLD by the authors' own Lean function (tested against real Go, not proved from fmt's source: count such statements apart). THE CARD IS WHAT COUNTS. Prove the row's statement (the work); the ties are given (YtalalhngpcmoeaaDoorTie.lean); close each card by the builder's one call (the guide's Derived/Test/ToyasCard.lean, 'card_holds'). Laid BY PROGRAM, IN A SANDBOX (cutbox-door.mjs). By AI agents, Wed Nov 11 2026. No macro, syntax, notation, axiom, sorry.
-/
import Derived.Test.YtalalhngpcmoeaaDoorRows
import GoSem.ClaimSeven
namespace Go.Proofs.YtalalhngpcmoeaaDoor
namespace Rows

/-- THE TIED CARD OF 'pleacherlaw.ReadCuts'. -/
def readCutsCard : Claim7 := { stood := { row := readCutsRow, standIns := [], harness := (true, "eb3f5c92ac5513b6a3238225dc20ddc48d05974b8fbce000b86d5ad46e90e253"), looks := false }, kinds := [], alts := [], laidByText := true, laidKinds := [.data, .widerDeep, .pinned], laidTests := true, laidLooks := .later }
def ReadCutsCardSaid : Prop := Claim7.holds Tryd.pinned (.plain (OpenSpec.ofChange readCutsSpec)) readCutsCard

/-- THE TIED CARD OF 'pleacherlaw.RelGroups'. -/
def relGroupsCard : Claim7 := { stood := { row := relGroupsRow, standIns := [], harness := (true, "eb3f5c92ac5513b6a3238225dc20ddc48d05974b8fbce000b86d5ad46e90e253"), looks := false }, kinds := [], alts := [], laidByText := true, laidKinds := [.data, .pinned], laidTests := true, laidLooks := .later }
def RelGroupsCardSaid : Prop := Claim7.holds Tryd.pinned (.plain (OpenSpec.ofChange relGroupsSpec)) relGroupsCard

/-- THE TIED CARD OF 'pleacherlaw.CoreChecks'. -/
def coreChecksCard : Claim7 := { stood := { row := coreChecksRow, standIns := [], harness := (true, "eb3f5c92ac5513b6a3238225dc20ddc48d05974b8fbce000b86d5ad46e90e253"), looks := false }, kinds := [], alts := [], laidByText := true, laidKinds := [.data, .mapped, .pinned], laidTests := true, laidLooks := .later }
def CoreChecksCardSaid : Prop := Claim7.holds Tryd.pinned (.plain (OpenSpec.ofChange coreChecksSpec)) coreChecksCard

/-- THE TIED CARD OF 'pleacherlaw.XmlEscapes'. -/
def xmlEscapesCard : Claim7 := { stood := { row := xmlEscapesRow, standIns := [], harness := (true, "eb3f5c92ac5513b6a3238225dc20ddc48d05974b8fbce000b86d5ad46e90e253"), looks := false }, kinds := [], alts := [], laidByText := true, laidKinds := [.data, .data, .pinned], laidTests := true, laidLooks := .later }
def XmlEscapesCardSaid : Prop := Claim7.holds Tryd.pinned (.plain (OpenSpec.ofChange xmlEscapesSpec)) xmlEscapesCard

/-- THE TIED CARD OF 'pleacherlaw.XmlChecks'. -/
def xmlChecksCard : Claim7 := { stood := { row := xmlChecksRow, standIns := [], harness := (true, "eb3f5c92ac5513b6a3238225dc20ddc48d05974b8fbce000b86d5ad46e90e253"), looks := false }, kinds := [], alts := [], laidByText := true, laidKinds := [.data, .pinned], laidTests := true, laidLooks := .later }
def XmlChecksCardSaid : Prop := Claim7.holds Tryd.pinned (.plain (OpenSpec.ofChange xmlChecksSpec)) xmlChecksCard

/-- THE TIED CARD OF 'pleacherlaw.StoreShreds'. -/
def storeShredsCard : Claim7 := { stood := { row := storeShredsRow, standIns := [], harness := (true, "eb3f5c92ac5513b6a3238225dc20ddc48d05974b8fbce000b86d5ad46e90e253"), looks := false }, kinds := [], alts := [], laidByText := true, laidKinds := [.data, .pinned], laidTests := true, laidLooks := .later }
def StoreShredsCardSaid : Prop := Claim7.holds Tryd.pinned (.plain (OpenSpec.ofChange storeShredsSpec)) storeShredsCard

/-- THE TIED CARD OF 'pleacherlaw.RelSorts'. -/
def relSortsCard : Claim7 := { stood := { row := relSortsRow, standIns := [], harness := (true, "eb3f5c92ac5513b6a3238225dc20ddc48d05974b8fbce000b86d5ad46e90e253"), looks := false }, kinds := [], alts := [], laidByText := true, laidKinds := [.data, .pinned], laidTests := true, laidLooks := .later }
def RelSortsCardSaid : Prop := Claim7.holds Tryd.pinned (.plain (OpenSpec.ofChange relSortsSpec)) relSortsCard

/-- THE TIED CARD OF 'pleacherlaw.RelRanks'. -/
def relRanksCard : Claim7 := { stood := { row := relRanksRow, standIns := [], harness := (true, "eb3f5c92ac5513b6a3238225dc20ddc48d05974b8fbce000b86d5ad46e90e253"), looks := false }, kinds := [], alts := [], laidByText := true, laidKinds := [.data, .pinned], laidTests := true, laidLooks := .later }
def RelRanksCardSaid : Prop := Claim7.holds Tryd.pinned (.plain (OpenSpec.ofChange relRanksSpec)) relRanksCard

/-- THE TIED CARD OF 'pleacherlaw.XmlShows'. -/
def xmlShowsCard : Claim7 := { stood := { row := xmlShowsRow, standIns := [], harness := (true, "eb3f5c92ac5513b6a3238225dc20ddc48d05974b8fbce000b86d5ad46e90e253"), looks := false }, kinds := [], alts := [], laidByText := true, laidKinds := [.data, .data, .pinned], laidTests := true, laidLooks := .later }
def XmlShowsCardSaid : Prop := Claim7.holds Tryd.pinned (.plain (OpenSpec.ofChange xmlShowsSpec)) xmlShowsCard

/-- THE TIED CARD OF 'pleacherlaw.XmlParses'. -/
def xmlParsesCard : Claim7 := { stood := { row := xmlParsesRow, standIns := [], harness := (true, "eb3f5c92ac5513b6a3238225dc20ddc48d05974b8fbce000b86d5ad46e90e253"), looks := false }, kinds := [], alts := [], laidByText := true, laidKinds := [.data, .data, .pinned], laidTests := true, laidLooks := .later }
def XmlParsesCardSaid : Prop := Claim7.holds Tryd.pinned (.plain (OpenSpec.ofChange xmlParsesSpec)) xmlParsesCard

/-- THE TIED CARD OF 'pleacherlaw.CoreLowers'. -/
def coreLowersCard : Claim7 := { stood := { row := coreLowersRow, standIns := [], harness := (true, "eb3f5c92ac5513b6a3238225dc20ddc48d05974b8fbce000b86d5ad46e90e253"), looks := false }, kinds := [], alts := [], laidByText := true, laidKinds := [.data, .mapped, .mapped, .mapped, .pinned], laidTests := true, laidLooks := .later }
def CoreLowersCardSaid : Prop := Claim7.holds Tryd.pinned (.plain (OpenSpec.ofChange coreLowersSpec)) coreLowersCard

/-- THE TIED CARD OF 'pleacherlaw.ReadParses'. -/
def readParsesCard : Claim7 := { stood := { row := readParsesRow, standIns := [], harness := (true, "eb3f5c92ac5513b6a3238225dc20ddc48d05974b8fbce000b86d5ad46e90e253"), looks := false }, kinds := [], alts := [], laidByText := true, laidKinds := [.data, .widerDeep, .widerDeep, .data, .pinned], laidTests := true, laidLooks := .later }
def ReadParsesCardSaid : Prop := Claim7.holds Tryd.pinned (.plain (OpenSpec.ofChange readParsesSpec)) readParsesCard

/-- THE SECOND FORM's CARD OF 'pleacherlaw.ReadCuts'. -/
def readCutsUptoCard : Claim7 := { stood := { row := readCutsUptoRow, standIns := [], harness := (true, "eb3f5c92ac5513b6a3238225dc20ddc48d05974b8fbce000b86d5ad46e90e253"), looks := false }, kinds := [], alts := [], laidByText := true, laidKinds := [.data, .widerDeep, .pinned], laidTests := true, laidLooks := .later }
def ReadCutsUptoCardSaid : Prop := Claim7.holds Tryd.pinned (.plain (OpenSpec.upto readCutsSpec)) readCutsUptoCard

/-- THE SECOND FORM's CARD OF 'pleacherlaw.RelGroups'. -/
def relGroupsUptoCard : Claim7 := { stood := { row := relGroupsUptoRow, standIns := [], harness := (true, "eb3f5c92ac5513b6a3238225dc20ddc48d05974b8fbce000b86d5ad46e90e253"), looks := false }, kinds := [], alts := [], laidByText := true, laidKinds := [.data, .pinned], laidTests := true, laidLooks := .later }
def RelGroupsUptoCardSaid : Prop := Claim7.holds Tryd.pinned (.plain (OpenSpec.upto relGroupsSpec)) relGroupsUptoCard

/-- THE SECOND FORM's CARD OF 'pleacherlaw.CoreChecks'. -/
def coreChecksUptoCard : Claim7 := { stood := { row := coreChecksUptoRow, standIns := [], harness := (true, "eb3f5c92ac5513b6a3238225dc20ddc48d05974b8fbce000b86d5ad46e90e253"), looks := false }, kinds := [], alts := [], laidByText := true, laidKinds := [.data, .mapped, .pinned], laidTests := true, laidLooks := .later }
def CoreChecksUptoCardSaid : Prop := Claim7.holds Tryd.pinned (.plain (OpenSpec.upto coreChecksSpec)) coreChecksUptoCard

/-- THE SECOND FORM's CARD OF 'pleacherlaw.XmlEscapes'. -/
def xmlEscapesUptoCard : Claim7 := { stood := { row := xmlEscapesUptoRow, standIns := [], harness := (true, "eb3f5c92ac5513b6a3238225dc20ddc48d05974b8fbce000b86d5ad46e90e253"), looks := false }, kinds := [], alts := [], laidByText := true, laidKinds := [.data, .data, .pinned], laidTests := true, laidLooks := .later }
def XmlEscapesUptoCardSaid : Prop := Claim7.holds Tryd.pinned (.plain (OpenSpec.upto xmlEscapesSpec)) xmlEscapesUptoCard

/-- THE SECOND FORM's CARD OF 'pleacherlaw.XmlChecks'. -/
def xmlChecksUptoCard : Claim7 := { stood := { row := xmlChecksUptoRow, standIns := [], harness := (true, "eb3f5c92ac5513b6a3238225dc20ddc48d05974b8fbce000b86d5ad46e90e253"), looks := false }, kinds := [], alts := [], laidByText := true, laidKinds := [.data, .pinned], laidTests := true, laidLooks := .later }
def XmlChecksUptoCardSaid : Prop := Claim7.holds Tryd.pinned (.plain (OpenSpec.upto xmlChecksSpec)) xmlChecksUptoCard

/-- THE SECOND FORM's CARD OF 'pleacherlaw.StoreShreds'. -/
def storeShredsUptoCard : Claim7 := { stood := { row := storeShredsUptoRow, standIns := [], harness := (true, "eb3f5c92ac5513b6a3238225dc20ddc48d05974b8fbce000b86d5ad46e90e253"), looks := false }, kinds := [], alts := [], laidByText := true, laidKinds := [.data, .pinned], laidTests := true, laidLooks := .later }
def StoreShredsUptoCardSaid : Prop := Claim7.holds Tryd.pinned (.plain (OpenSpec.upto storeShredsSpec)) storeShredsUptoCard

/-- THE SECOND FORM's CARD OF 'pleacherlaw.RelSorts'. -/
def relSortsUptoCard : Claim7 := { stood := { row := relSortsUptoRow, standIns := [], harness := (true, "eb3f5c92ac5513b6a3238225dc20ddc48d05974b8fbce000b86d5ad46e90e253"), looks := false }, kinds := [], alts := [], laidByText := true, laidKinds := [.data, .pinned], laidTests := true, laidLooks := .later }
def RelSortsUptoCardSaid : Prop := Claim7.holds Tryd.pinned (.plain (OpenSpec.upto relSortsSpec)) relSortsUptoCard

/-- THE SECOND FORM's CARD OF 'pleacherlaw.RelRanks'. -/
def relRanksUptoCard : Claim7 := { stood := { row := relRanksUptoRow, standIns := [], harness := (true, "eb3f5c92ac5513b6a3238225dc20ddc48d05974b8fbce000b86d5ad46e90e253"), looks := false }, kinds := [], alts := [], laidByText := true, laidKinds := [.data, .pinned], laidTests := true, laidLooks := .later }
def RelRanksUptoCardSaid : Prop := Claim7.holds Tryd.pinned (.plain (OpenSpec.upto relRanksSpec)) relRanksUptoCard

/-- THE SECOND FORM's CARD OF 'pleacherlaw.XmlShows'. -/
def xmlShowsUptoCard : Claim7 := { stood := { row := xmlShowsUptoRow, standIns := [], harness := (true, "eb3f5c92ac5513b6a3238225dc20ddc48d05974b8fbce000b86d5ad46e90e253"), looks := false }, kinds := [], alts := [], laidByText := true, laidKinds := [.data, .data, .pinned], laidTests := true, laidLooks := .later }
def XmlShowsUptoCardSaid : Prop := Claim7.holds Tryd.pinned (.plain (OpenSpec.upto xmlShowsSpec)) xmlShowsUptoCard

/-- THE SECOND FORM's CARD OF 'pleacherlaw.XmlParses'. -/
def xmlParsesUptoCard : Claim7 := { stood := { row := xmlParsesUptoRow, standIns := [], harness := (true, "eb3f5c92ac5513b6a3238225dc20ddc48d05974b8fbce000b86d5ad46e90e253"), looks := false }, kinds := [], alts := [], laidByText := true, laidKinds := [.data, .data, .pinned], laidTests := true, laidLooks := .later }
def XmlParsesUptoCardSaid : Prop := Claim7.holds Tryd.pinned (.plain (OpenSpec.upto xmlParsesSpec)) xmlParsesUptoCard

/-- THE SECOND FORM's CARD OF 'pleacherlaw.CoreLowers'. -/
def coreLowersUptoCard : Claim7 := { stood := { row := coreLowersUptoRow, standIns := [], harness := (true, "eb3f5c92ac5513b6a3238225dc20ddc48d05974b8fbce000b86d5ad46e90e253"), looks := false }, kinds := [], alts := [], laidByText := true, laidKinds := [.data, .mapped, .mapped, .mapped, .pinned], laidTests := true, laidLooks := .later }
def CoreLowersUptoCardSaid : Prop := Claim7.holds Tryd.pinned (.plain (OpenSpec.upto coreLowersSpec)) coreLowersUptoCard

/-- THE SECOND FORM's CARD OF 'pleacherlaw.ReadParses'. -/
def readParsesUptoCard : Claim7 := { stood := { row := readParsesUptoRow, standIns := [], harness := (true, "eb3f5c92ac5513b6a3238225dc20ddc48d05974b8fbce000b86d5ad46e90e253"), looks := false }, kinds := [], alts := [], laidByText := true, laidKinds := [.data, .widerDeep, .widerDeep, .data, .pinned], laidTests := true, laidLooks := .later }
def ReadParsesUptoCardSaid : Prop := Claim7.holds Tryd.pinned (.plain (OpenSpec.upto readParsesSpec)) readParsesUptoCard
end Rows
end Go.Proofs.YtalalhngpcmoeaaDoor
