/-
  DERIVED. GIVEN WITH THE SEED: THE CARDS: each row of YtloelaoobeoapaaGreatDoorRows.lean that lists a variable, with what it lists TIED to the program's text (the seventh form; the later family's looks); each row that meets fmt, with fmt's text TOLD by the authors' own Lean function (tested against real Go, not proved from fmt's source: count such statements apart). THE CARD IS WHAT COUNTS. Prove the row's statement (the work); the ties are given (YtloelaoobeoapaaGreatDoorTie.lean); close each card by the builder's one call (the guide's Derived/Test/ToyasCard.lean, 'card_holds'). Laid BY PROGRAM, IN A SANDBOX (cutbox-door.mjs). By AI agents, Wed Nov 11 2026. No macro, syntax, notation, axiom, sorry.
-/
import Derived.Test.YtloelaoobeoapaaGreatDoorRows
import GoSem.ClaimSeven
namespace Go.Proofs.YtloelaoobeoapaaGreatDoor
namespace Rows

/-- THE TIED CARD OF 'consignorlaw05.ManifestParses'. -/
def manifestParsesCard : Claim7 := { stood := { row := manifestParsesRow, standIns := [], harness := (true, "6288341106cbf0bbbc20537cddab16984c7dd116190f913e43d038cf75047462"), looks := false }, kinds := [], alts := [], laidByText := true, laidKinds := [.data, .data, .data, .data, .data, .pinned], laidTests := true, laidLooks := .later }
def ManifestParsesCardSaid : Prop := Claim7.holds Tryz.pinned (.plain (OpenSpec.ofChange manifestParsesSpec)) manifestParsesCard

/-- THE SECOND FORM's CARD OF 'consignorlaw05.ManifestParses'. -/
def manifestParsesUptoCard : Claim7 := { stood := { row := manifestParsesUptoRow, standIns := [], harness := (true, "6288341106cbf0bbbc20537cddab16984c7dd116190f913e43d038cf75047462"), looks := false }, kinds := [], alts := [], laidByText := true, laidKinds := [.data, .data, .data, .data, .data, .pinned], laidTests := true, laidLooks := .later }
def ManifestParsesUptoCardSaid : Prop := Claim7.holds Tryz.pinned (.plain (OpenSpec.upto manifestParsesSpec)) manifestParsesUptoCard
end Rows
end Go.Proofs.YtloelaoobeoapaaGreatDoor
