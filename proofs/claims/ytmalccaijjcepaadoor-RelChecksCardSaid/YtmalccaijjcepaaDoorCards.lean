/-
  DERIVED. GIVEN WITH THE SEED: THE CARDS: each row of YtmalccaijjcepaaDoorRows.lean that lists a variable, with what it lists TIED to the program's text (the seventh form; the later family's looks); each row that meets fmt, with fmt's text TOLD by the authors' own Lean function (tested against real Go, not proved from fmt's source: count such statements apart). THE CARD IS WHAT COUNTS. Prove the row's statement (the work); the ties are given (YtmalccaijjcepaaDoorTie.lean); close each card by the builder's one call (the guide's Derived/Test/ToyasCard.lean, 'card_holds'). Laid BY PROGRAM, IN A SANDBOX (cutbox-door.mjs). By AI agents, Wed Nov 11 2026. No macro, syntax, notation, axiom, sorry.
-/
import Derived.Test.YtmalccaijjcepaaDoorRows
import GoSem.ClaimSeven
namespace Go.Proofs.YtmalccaijjcepaaDoor
namespace Rows

/-- THE TIED CARD OF 'pleacherlaw.XmlTexts'. -/
def xmlTextsCard : Claim7 := { stood := { row := xmlTextsRow, standIns := [], harness := (true, "6aa054bc1909cd76258bbb176f4888f2581f6afc3d01e32c3d084ba4395746f9"), looks := false }, kinds := [], alts := [], laidByText := true, laidKinds := [.data, .pinned], laidTests := true, laidLooks := .later }
def XmlTextsCardSaid : Prop := Claim7.holds Tryd.pinned (.plain (OpenSpec.ofChange xmlTextsSpec)) xmlTextsCard

/-- THE TIED CARD OF 'pleacherlaw.RelItems'. -/
def relItemsCard : Claim7 := { stood := { row := relItemsRow, standIns := [], harness := (true, "6aa054bc1909cd76258bbb176f4888f2581f6afc3d01e32c3d084ba4395746f9"), looks := false }, kinds := [], alts := [], laidByText := true, laidKinds := [.data, .pinned], laidTests := true, laidLooks := .later }
def RelItemsCardSaid : Prop := Claim7.holds Tryd.pinned (.plain (OpenSpec.ofChange relItemsSpec)) relItemsCard

/-- THE TIED CARD OF 'pleacherlaw.StoreChecks'. -/
def storeChecksCard : Claim7 := { stood := { row := storeChecksRow, standIns := [], harness := (true, "6aa054bc1909cd76258bbb176f4888f2581f6afc3d01e32c3d084ba4395746f9"), looks := false }, kinds := [], alts := [], laidByText := true, laidKinds := [.data, .pinned], laidTests := true, laidLooks := .later }
def StoreChecksCardSaid : Prop := Claim7.holds Tryd.pinned (.plain (OpenSpec.ofChange storeChecksSpec)) storeChecksCard

/-- THE TIED CARD OF 'pleacherlaw.RelChecks'. -/
def relChecksCard : Claim7 := { stood := { row := relChecksRow, standIns := [], harness := (true, "6aa054bc1909cd76258bbb176f4888f2581f6afc3d01e32c3d084ba4395746f9"), looks := false }, kinds := [], alts := [], laidByText := true, laidKinds := [.data, .pinned], laidTests := true, laidLooks := .later }
def RelChecksCardSaid : Prop := Claim7.holds Tryd.pinned (.plain (OpenSpec.ofChange relChecksSpec)) relChecksCard

/-- THE TIED CARD OF 'pleacherlaw.StoreEvents'. -/
def storeEventsCard : Claim7 := { stood := { row := storeEventsRow, standIns := [], harness := (true, "6aa054bc1909cd76258bbb176f4888f2581f6afc3d01e32c3d084ba4395746f9"), looks := false }, kinds := [], alts := [], laidByText := true, laidKinds := [.data, .pinned], laidTests := true, laidLooks := .later }
def StoreEventsCardSaid : Prop := Claim7.holds Tryd.pinned (.plain (OpenSpec.ofChange storeEventsSpec)) storeEventsCard

/-- THE TIED CARD OF 'pleacherlaw.StoreTexts'. -/
def storeTextsCard : Claim7 := { stood := { row := storeTextsRow, standIns := [], harness := (true, "6aa054bc1909cd76258bbb176f4888f2581f6afc3d01e32c3d084ba4395746f9"), looks := false }, kinds := [], alts := [], laidByText := true, laidKinds := [.data, .pinned], laidTests := true, laidLooks := .later }
def StoreTextsCardSaid : Prop := Claim7.holds Tryd.pinned (.plain (OpenSpec.ofChange storeTextsSpec)) storeTextsCard

/-- THE TIED CARD OF 'pleacherlaw.RelSelects'. -/
def relSelectsCard : Claim7 := { stood := { row := relSelectsRow, standIns := [], harness := (true, "6aa054bc1909cd76258bbb176f4888f2581f6afc3d01e32c3d084ba4395746f9"), looks := false }, kinds := [], alts := [], laidByText := true, laidKinds := [.data, .pinned], laidTests := true, laidLooks := .later }
def RelSelectsCardSaid : Prop := Claim7.holds Tryd.pinned (.plain (OpenSpec.ofChange relSelectsSpec)) relSelectsCard

/-- THE TIED CARD OF 'pleacherlaw.ReadTokens'. -/
def readTokensCard : Claim7 := { stood := { row := readTokensRow, standIns := [], harness := (true, "6aa054bc1909cd76258bbb176f4888f2581f6afc3d01e32c3d084ba4395746f9"), looks := false }, kinds := [], alts := [], laidByText := true, laidKinds := [.data, .widerDeep, .pinned], laidTests := true, laidLooks := .later }
def ReadTokensCardSaid : Prop := Claim7.holds Tryd.pinned (.plain (OpenSpec.ofChange readTokensSpec)) readTokensCard

/-- THE SECOND FORM's CARD OF 'pleacherlaw.XmlTexts'. -/
def xmlTextsUptoCard : Claim7 := { stood := { row := xmlTextsUptoRow, standIns := [], harness := (true, "6aa054bc1909cd76258bbb176f4888f2581f6afc3d01e32c3d084ba4395746f9"), looks := false }, kinds := [], alts := [], laidByText := true, laidKinds := [.data, .pinned], laidTests := true, laidLooks := .later }
def XmlTextsUptoCardSaid : Prop := Claim7.holds Tryd.pinned (.plain (OpenSpec.upto xmlTextsSpec)) xmlTextsUptoCard

/-- THE SECOND FORM's CARD OF 'pleacherlaw.RelItems'. -/
def relItemsUptoCard : Claim7 := { stood := { row := relItemsUptoRow, standIns := [], harness := (true, "6aa054bc1909cd76258bbb176f4888f2581f6afc3d01e32c3d084ba4395746f9"), looks := false }, kinds := [], alts := [], laidByText := true, laidKinds := [.data, .pinned], laidTests := true, laidLooks := .later }
def RelItemsUptoCardSaid : Prop := Claim7.holds Tryd.pinned (.plain (OpenSpec.upto relItemsSpec)) relItemsUptoCard

/-- THE SECOND FORM's CARD OF 'pleacherlaw.StoreChecks'. -/
def storeChecksUptoCard : Claim7 := { stood := { row := storeChecksUptoRow, standIns := [], harness := (true, "6aa054bc1909cd76258bbb176f4888f2581f6afc3d01e32c3d084ba4395746f9"), looks := false }, kinds := [], alts := [], laidByText := true, laidKinds := [.data, .pinned], laidTests := true, laidLooks := .later }
def StoreChecksUptoCardSaid : Prop := Claim7.holds Tryd.pinned (.plain (OpenSpec.upto storeChecksSpec)) storeChecksUptoCard

/-- THE SECOND FORM's CARD OF 'pleacherlaw.RelChecks'. -/
def relChecksUptoCard : Claim7 := { stood := { row := relChecksUptoRow, standIns := [], harness := (true, "6aa054bc1909cd76258bbb176f4888f2581f6afc3d01e32c3d084ba4395746f9"), looks := false }, kinds := [], alts := [], laidByText := true, laidKinds := [.data, .pinned], laidTests := true, laidLooks := .later }
def RelChecksUptoCardSaid : Prop := Claim7.holds Tryd.pinned (.plain (OpenSpec.upto relChecksSpec)) relChecksUptoCard

/-- THE SECOND FORM's CARD OF 'pleacherlaw.StoreEvents'. -/
def storeEventsUptoCard : Claim7 := { stood := { row := storeEventsUptoRow, standIns := [], harness := (true, "6aa054bc1909cd76258bbb176f4888f2581f6afc3d01e32c3d084ba4395746f9"), looks := false }, kinds := [], alts := [], laidByText := true, laidKinds := [.data, .pinned], laidTests := true, laidLooks := .later }
def StoreEventsUptoCardSaid : Prop := Claim7.holds Tryd.pinned (.plain (OpenSpec.upto storeEventsSpec)) storeEventsUptoCard

/-- THE SECOND FORM's CARD OF 'pleacherlaw.StoreTexts'. -/
def storeTextsUptoCard : Claim7 := { stood := { row := storeTextsUptoRow, standIns := [], harness := (true, "6aa054bc1909cd76258bbb176f4888f2581f6afc3d01e32c3d084ba4395746f9"), looks := false }, kinds := [], alts := [], laidByText := true, laidKinds := [.data, .pinned], laidTests := true, laidLooks := .later }
def StoreTextsUptoCardSaid : Prop := Claim7.holds Tryd.pinned (.plain (OpenSpec.upto storeTextsSpec)) storeTextsUptoCard

/-- THE SECOND FORM's CARD OF 'pleacherlaw.RelSelects'. -/
def relSelectsUptoCard : Claim7 := { stood := { row := relSelectsUptoRow, standIns := [], harness := (true, "6aa054bc1909cd76258bbb176f4888f2581f6afc3d01e32c3d084ba4395746f9"), looks := false }, kinds := [], alts := [], laidByText := true, laidKinds := [.data, .pinned], laidTests := true, laidLooks := .later }
def RelSelectsUptoCardSaid : Prop := Claim7.holds Tryd.pinned (.plain (OpenSpec.upto relSelectsSpec)) relSelectsUptoCard

/-- THE SECOND FORM's CARD OF 'pleacherlaw.ReadTokens'. -/
def readTokensUptoCard : Claim7 := { stood := { row := readTokensUptoRow, standIns := [], harness := (true, "6aa054bc1909cd76258bbb176f4888f2581f6afc3d01e32c3d084ba4395746f9"), looks := false }, kinds := [], alts := [], laidByText := true, laidKinds := [.data, .widerDeep, .pinned], laidTests := true, laidLooks := .later }
def ReadTokensUptoCardSaid : Prop := Claim7.holds Tryd.pinned (.plain (OpenSpec.upto readTokensSpec)) readTokensUptoCard
end Rows
end Go.Proofs.YtmalccaijjcepaaDoor
