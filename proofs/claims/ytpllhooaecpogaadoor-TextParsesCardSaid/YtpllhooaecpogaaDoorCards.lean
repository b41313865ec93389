/-
  DERIVED. GIVEN WITH THE SEED: THE CARDS: each row of YtpllhooaecpogaaDoorRows.lean that lists a variable, with what it lists TIED to the program's text (the seventh form; the later family's looks); each row that meets fmt, with fmt's text TOLD by the authors' own Lean function (tested against real Go, not proved from fmt's source: count such statements apart). THE CARD IS WHAT COUNTS. Prove the row's statement (the work); the ties are given (YtpllhooaecpogaaDoorTie.lean); close each card by the builder's one call (the guide's Derived/Test/ToyasCard.lean, 'card_holds'). Laid BY PROGRAM, IN A SANDBOX (cutbox-door.mjs). By AI agents, Wed Nov 11 2026. No macro, syntax, notation, axiom, sorry.
-/
import Derived.Test.YtpllhooaecpogaaDoorRows
import GoSem.ClaimSeven
namespace Go.Proofs.YtpllhooaecpogaaDoor
namespace Rows

/-- THE TIED CARD OF 'consignorlaw04.TextBack'. -/
def textBackCard : Claim7 := { stood := { row := textBackRow, standIns := [], harness := (true, "a7d4313b7a7253a618711edca5536a0a9411951ca68471de62273f3f524d8752"), looks := false }, kinds := [], alts := [], laidByText := true, laidKinds := [.data, .data, .data, .data, .pinned], laidTests := true, laidLooks := .later }
def TextBackCardSaid : Prop := Claim7.holds Tryd.pinned (.plain (OpenSpec.ofChange textBackSpec)) textBackCard

/-- THE TIED CARD OF 'consignorlaw04.TextOne'. -/
def textOneCard : Claim7 := { stood := { row := textOneRow, standIns := [], harness := (true, "a7d4313b7a7253a618711edca5536a0a9411951ca68471de62273f3f524d8752"), looks := false }, kinds := [], alts := [], laidByText := true, laidKinds := [.data, .data, .data, .data, .pinned], laidTests := true, laidLooks := .later }
def TextOneCardSaid : Prop := Claim7.holds Tryd.pinned (.plain (OpenSpec.ofChange textOneSpec)) textOneCard

/-- THE TIED CARD OF 'consignorlaw04.TextDeep'. -/
def textDeepCard : Claim7 := { stood := { row := textDeepRow, standIns := [], harness := (true, "a7d4313b7a7253a618711edca5536a0a9411951ca68471de62273f3f524d8752"), looks := false }, kinds := [], alts := [], laidByText := true, laidKinds := [.data, .data, .data, .data, .pinned], laidTests := true, laidLooks := .later }
def TextDeepCardSaid : Prop := Claim7.holds Tryd.pinned (.plain (OpenSpec.ofChange textDeepSpec)) textDeepCard

/-- THE TIED CARD OF 'consignorlaw04.TextParts'. -/
def textPartsCard : Claim7 := { stood := { row := textPartsRow, standIns := [], harness := (true, "a7d4313b7a7253a618711edca5536a0a9411951ca68471de62273f3f524d8752"), looks := false }, kinds := [], alts := [], laidByText := true, laidKinds := [.data, .data, .data, .data, .pinned], laidTests := true, laidLooks := .later }
def TextPartsCardSaid : Prop := Claim7.holds Tryd.pinned (.plain (OpenSpec.ofChange textPartsSpec)) textPartsCard

/-- THE TIED CARD OF 'consignorlaw04.TextParses'. -/
def textParsesCard : Claim7 := { stood := { row := textParsesRow, standIns := [], harness := (true, "a7d4313b7a7253a618711edca5536a0a9411951ca68471de62273f3f524d8752"), looks := false }, kinds := [], alts := [], laidByText := true, laidKinds := [.data, .data, .data, .data, .pinned], laidTests := true, laidLooks := .later }
def TextParsesCardSaid : Prop := Claim7.holds Tryd.pinned (.plain (OpenSpec.ofChange textParsesSpec)) textParsesCard

/-- THE TIED CARD OF 'consignorlaw04.TextPrints'. -/
def textPrintsCard : Claim7 := { stood := { row := textPrintsRow, standIns := [], harness := (true, "a7d4313b7a7253a618711edca5536a0a9411951ca68471de62273f3f524d8752"), looks := false }, kinds := [], alts := [], laidByText := true, laidKinds := [.data, .data, .data, .data, .pinned], laidTests := true, laidLooks := .later }
def TextPrintsCardSaid : Prop := Claim7.holds Tryd.pinned (.plain (OpenSpec.ofChange textPrintsSpec)) textPrintsCard

/-- THE SECOND FORM's CARD OF 'consignorlaw04.TextBack'. -/
def textBackUptoCard : Claim7 := { stood := { row := textBackUptoRow, standIns := [], harness := (true, "a7d4313b7a7253a618711edca5536a0a9411951ca68471de62273f3f524d8752"), looks := false }, kinds := [], alts := [], laidByText := true, laidKinds := [.data, .data, .data, .data, .pinned], laidTests := true, laidLooks := .later }
def TextBackUptoCardSaid : Prop := Claim7.holds Tryd.pinned (.plain (OpenSpec.upto textBackSpec)) textBackUptoCard

/-- THE SECOND FORM's CARD OF 'consignorlaw04.TextOne'. -/
def textOneUptoCard : Claim7 := { stood := { row := textOneUptoRow, standIns := [], harness := (true, "a7d4313b7a7253a618711edca5536a0a9411951ca68471de62273f3f524d8752"), looks := false }, kinds := [], alts := [], laidByText := true, laidKinds := [.data, .data, .data, .data, .pinned], laidTests := true, laidLooks := .later }
def TextOneUptoCardSaid : Prop := Claim7.holds Tryd.pinned (.plain (OpenSpec.upto textOneSpec)) textOneUptoCard

/-- THE SECOND FORM's CARD OF 'consignorlaw04.TextDeep'. -/
def textDeepUptoCard : Claim7 := { stood := { row := textDeepUptoRow, standIns := [], harness := (true, "a7d4313b7a7253a618711edca5536a0a9411951ca68471de62273f3f524d8752"), looks := false }, kinds := [], alts := [], laidByText := true, laidKinds := [.data, .data, .data, .data, .pinned], laidTests := true, laidLooks := .later }
def TextDeepUptoCardSaid : Prop := Claim7.holds Tryd.pinned (.plain (OpenSpec.upto textDeepSpec)) textDeepUptoCard

/-- THE SECOND FORM's CARD OF 'consignorlaw04.TextParts'. -/
def textPartsUptoCard : Claim7 := { stood := { row := textPartsUptoRow, standIns := [], harness := (true, "a7d4313b7a7253a618711edca5536a0a9411951ca68471de62273f3f524d8752"), looks := false }, kinds := [], alts := [], laidByText := true, laidKinds := [.data, .data, .data, .data, .pinned], laidTests := true, laidLooks := .later }
def TextPartsUptoCardSaid : Prop := Claim7.holds Tryd.pinned (.plain (OpenSpec.upto textPartsSpec)) textPartsUptoCard

/-- THE SECOND FORM's CARD OF 'consignorlaw04.TextParses'. -/
def textParsesUptoCard : Claim7 := { stood := { row := textParsesUptoRow, standIns := [], harness := (true, "a7d4313b7a7253a618711edca5536a0a9411951ca68471de62273f3f524d8752"), looks := false }, kinds := [], alts := [], laidByText := true, laidKinds := [.data, .data, .data, .data, .pinned], laidTests := true, laidLooks := .later }
def TextParsesUptoCardSaid : Prop := Claim7.holds Tryd.pinned (.plain (OpenSpec.upto textParsesSpec)) textParsesUptoCard

/-- THE SECOND FORM's CARD OF 'consignorlaw04.TextPrints'. -/
def textPrintsUptoCard : Claim7 := { stood := { row := textPrintsUptoRow, standIns := [], harness := (true, "a7d4313b7a7253a618711edca5536a0a9411951ca68471de62273f3f524d8752"), looks := false }, kinds := [], alts := [], laidByText := true, laidKinds := [.data, .data, .data, .data, .pinned], laidTests := true, laidLooks := .later }
def TextPrintsUptoCardSaid : Prop := Claim7.holds Tryd.pinned (.plain (OpenSpec.upto textPrintsSpec)) textPrintsUptoCard
end Rows
end Go.Proofs.YtpllhooaecpogaaDoor
