/-
  DERIVED. GIVEN WITH THE SEED: THE CARDS: each row of YtloelaoobeoapaaDoorRows.lean that lists a variable, with what it lists TIED to the program's text (the seventh form; the later family's looks); each row that meets fmt, with fmt's text TOLD by the authors' own Lean function (tested against real Go, not proved from fmt's source: count such statements apart). THE CARD IS WHAT COUNTS. Prove the row's statement (the work); the ties are given (YtloelaoobeoapaaDoorTie.lean); close each card by the builder's one call (the guide's Derived/Test/ToyasCard.lean, 'card_holds'). Laid BY PROGRAM, IN A SANDBOX (cutbox-door.mjs). By AI agents, Wed Nov 11 2026. No macro, syntax, notation, axiom, sorry.
-/
import Derived.Test.YtloelaoobeoapaaDoorRows
import GoSem.ClaimSeven
namespace Go.Proofs.YtloelaoobeoapaaDoor
namespace Rows

/-- THE TIED CARD OF 'consignorlaw05.ManifestPrints'. -/
def manifestPrintsCard : Claim7 := { stood := { row := manifestPrintsRow, standIns := [], harness := (true, "c8007ce742f913b695d8e973c0fba94898dc57e3df7532cb9fd94bb5a218afce"), looks := false }, kinds := [], alts := [], laidByText := true, laidKinds := [.data, .data, .data, .data], laidTests := true, laidLooks := .later }
def ManifestPrintsCardSaid : Prop := Claim7.holds Tryd.pinned (.plain (OpenSpec.ofChange manifestPrintsSpec)) manifestPrintsCard

/-- THE TIED CARD OF 'consignorlaw05.ManifestNeeds'. -/
def manifestNeedsCard : Claim7 := { stood := { row := manifestNeedsRow, standIns := [], harness := (true, "c8007ce742f913b695d8e973c0fba94898dc57e3df7532cb9fd94bb5a218afce"), looks := false }, kinds := [], alts := [], laidByText := true, laidKinds := [.data, .data, .data, .data], laidTests := true, laidLooks := .later }
def ManifestNeedsCardSaid : Prop := Claim7.holds Tryd.pinned (.plain (OpenSpec.ofChange manifestNeedsSpec)) manifestNeedsCard

/-- THE TIED CARD OF 'consignorlaw05.ManifestBack'. -/
def manifestBackCard : Claim7 := { stood := { row := manifestBackRow, standIns := [], harness := (true, "c8007ce742f913b695d8e973c0fba94898dc57e3df7532cb9fd94bb5a218afce"), looks := false }, kinds := [], alts := [], laidByText := true, laidKinds := [.data, .data, .data, .data, .data, .pinned], laidTests := true, laidLooks := .later }
def ManifestBackCardSaid : Prop := Claim7.holds Tryd.pinned (.plain (OpenSpec.ofChange manifestBackSpec)) manifestBackCard

/-- THE TIED CARD OF 'consignorlaw05.ManifestApart'. -/
def manifestApartCard : Claim7 := { stood := { row := manifestApartRow, standIns := [], harness := (true, "c8007ce742f913b695d8e973c0fba94898dc57e3df7532cb9fd94bb5a218afce"), looks := false }, kinds := [], alts := [], laidByText := true, laidKinds := [.data, .data, .data, .data, .data, .pinned], laidTests := true, laidLooks := .later }
def ManifestApartCardSaid : Prop := Claim7.holds Tryd.pinned (.plain (OpenSpec.ofChange manifestApartSpec)) manifestApartCard

/-- THE SECOND FORM's CARD OF 'consignorlaw05.ManifestPrints'. -/
def manifestPrintsUptoCard : Claim7 := { stood := { row := manifestPrintsUptoRow, standIns := [], harness := (true, "c8007ce742f913b695d8e973c0fba94898dc57e3df7532cb9fd94bb5a218afce"), looks := false }, kinds := [], alts := [], laidByText := true, laidKinds := [.data, .data, .data, .data], laidTests := true, laidLooks := .later }
def ManifestPrintsUptoCardSaid : Prop := Claim7.holds Tryd.pinned (.plain (OpenSpec.upto manifestPrintsSpec)) manifestPrintsUptoCard

/-- THE SECOND FORM's CARD OF 'consignorlaw05.ManifestNeeds'. -/
def manifestNeedsUptoCard : Claim7 := { stood := { row := manifestNeedsUptoRow, standIns := [], harness := (true, "c8007ce742f913b695d8e973c0fba94898dc57e3df7532cb9fd94bb5a218afce"), looks := false }, kinds := [], alts := [], laidByText := true, laidKinds := [.data, .data, .data, .data], laidTests := true, laidLooks := .later }
def ManifestNeedsUptoCardSaid : Prop := Claim7.holds Tryd.pinned (.plain (OpenSpec.upto manifestNeedsSpec)) manifestNeedsUptoCard

/-- THE SECOND FORM's CARD OF 'consignorlaw05.ManifestBack'. -/
def manifestBackUptoCard : Claim7 := { stood := { row := manifestBackUptoRow, standIns := [], harness := (true, "c8007ce742f913b695d8e973c0fba94898dc57e3df7532cb9fd94bb5a218afce"), looks := false }, kinds := [], alts := [], laidByText := true, laidKinds := [.data, .data, .data, .data, .data, .pinned], laidTests := true, laidLooks := .later }
def ManifestBackUptoCardSaid : Prop := Claim7.holds Tryd.pinned (.plain (OpenSpec.upto manifestBackSpec)) manifestBackUptoCard

/-- THE SECOND FORM's CARD OF 'consignorlaw05.ManifestApart'. -/
def manifestApartUptoCard : Claim7 := { stood := { row := manifestApartUptoRow, standIns := [], harness := (true, "c8007ce742f913b695d8e973c0fba94898dc57e3df7532cb9fd94bb5a218afce"), looks := false }, kinds := [], alts := [], laidByText := true, laidKinds := [.data, .data, .data, .data, .data, .pinned], laidTests := true, laidLooks := .later }
def ManifestApartUptoCardSaid : Prop := Claim7.holds Tryd.pinned (.plain (OpenSpec.upto manifestApartSpec)) manifestApartUptoCard
end Rows
end Go.Proofs.YtloelaoobeoapaaDoor
