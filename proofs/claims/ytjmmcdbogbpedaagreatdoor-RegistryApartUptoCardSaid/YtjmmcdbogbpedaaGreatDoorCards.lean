/-
  DERIVED. GIVEN WITH THE SEED: THE CARDS: each row of YtjmmcdbogbpedaaGreatDoorRows.lean that lists a variable, with what it lists TIED to the program's text (the seventh form; the later family's looks); each row that meets fmt, with fmt's text TOLD by the authors' own Lean function (tested against real Go, not proved from fmt's source: count such statements apart). THE CARD IS WHAT COUNTS. Prove the row's statement (the work); the ties are given (YtjmmcdbogbpedaaGreatDoorTie.lean); close each card by the builder's one call (the guide's Derived/Test/ToyasCard.lean, 'card_holds'). Laid BY PROGRAM, IN A SANDBOX (cutbox-door.mjs). By AI agents, Wed Nov 11 2026. No macro, syntax, notation, axiom, sorry.
-/
import Derived.Test.YtjmmcdbogbpedaaGreatDoorRows
import GoSem.ClaimSeven
namespace Go.Proofs.YtjmmcdbogbpedaaGreatDoor
namespace Rows

/-- THE TIED CARD OF 'consignorlaw12.RegistryPuts'. -/
def registryPutsCard : Claim7 := { stood := { row := registryPutsRow, standIns := [], harness := (true, "ef4ed170a1e13fe3fc2b8573dddab2b44aca5ca1cd3fbc5b94d9d6e81505ba9c"), looks := false }, kinds := [], alts := [], laidByText := true, laidKinds := [.data, .data, .data, .data, .data, .pinned], laidTests := true, laidLooks := .later }
def RegistryPutsCardSaid : Prop := Claim7.holds Tryz.pinned (.plain (OpenSpec.ofChange registryPutsSpec)) registryPutsCard

/-- THE TIED CARD OF 'consignorlaw12.RegistryLinks'. -/
def registryLinksCard : Claim7 := { stood := { row := registryLinksRow, standIns := [], harness := (true, "ef4ed170a1e13fe3fc2b8573dddab2b44aca5ca1cd3fbc5b94d9d6e81505ba9c"), looks := false }, kinds := [], alts := [], laidByText := true, laidKinds := [.data, .data, .data, .data, .data, .pinned], laidTests := true, laidLooks := .later }
def RegistryLinksCardSaid : Prop := Claim7.holds Tryz.pinned (.plain (OpenSpec.ofChange registryLinksSpec)) registryLinksCard

/-- THE TIED CARD OF 'consignorlaw12.RegistryOrder'. -/
def registryOrderCard : Claim7 := { stood := { row := registryOrderRow, standIns := [], harness := (true, "ef4ed170a1e13fe3fc2b8573dddab2b44aca5ca1cd3fbc5b94d9d6e81505ba9c"), looks := false }, kinds := [], alts := [], laidByText := true, laidKinds := [.data, .data, .data, .data, .data, .pinned], laidTests := true, laidLooks := .later }
def RegistryOrderCardSaid : Prop := Claim7.holds Tryz.pinned (.plain (OpenSpec.ofChange registryOrderSpec)) registryOrderCard

/-- THE TIED CARD OF 'consignorlaw12.RegistryReads'. -/
def registryReadsCard : Claim7 := { stood := { row := registryReadsRow, standIns := [], harness := (true, "ef4ed170a1e13fe3fc2b8573dddab2b44aca5ca1cd3fbc5b94d9d6e81505ba9c"), looks := false }, kinds := [], alts := [], laidByText := true, laidKinds := [.data, .data, .data, .data, .data, .pinned], laidTests := true, laidLooks := .later }
def RegistryReadsCardSaid : Prop := Claim7.holds Tryz.pinned (.plain (OpenSpec.ofChange registryReadsSpec)) registryReadsCard

/-- THE TIED CARD OF 'consignorlaw12.RegistryWhole'. -/
def registryWholeCard : Claim7 := { stood := { row := registryWholeRow, standIns := [], harness := (true, "ef4ed170a1e13fe3fc2b8573dddab2b44aca5ca1cd3fbc5b94d9d6e81505ba9c"), looks := false }, kinds := [], alts := [], laidByText := true, laidKinds := [.data, .data, .data, .data, .data, .pinned], laidTests := true, laidLooks := .later }
def RegistryWholeCardSaid : Prop := Claim7.holds Tryz.pinned (.plain (OpenSpec.ofChange registryWholeSpec)) registryWholeCard

/-- THE TIED CARD OF 'consignorlaw12.RegistryApart'. -/
def registryApartCard : Claim7 := { stood := { row := registryApartRow, standIns := [], harness := (true, "ef4ed170a1e13fe3fc2b8573dddab2b44aca5ca1cd3fbc5b94d9d6e81505ba9c"), looks := false }, kinds := [], alts := [], laidByText := true, laidKinds := [.data, .data, .data, .data, .data, .pinned], laidTests := true, laidLooks := .later }
def RegistryApartCardSaid : Prop := Claim7.holds Tryz.pinned (.plain (OpenSpec.ofChange registryApartSpec)) registryApartCard

/-- THE SECOND FORM's CARD OF 'consignorlaw12.RegistryPuts'. -/
def registryPutsUptoCard : Claim7 := { stood := { row := registryPutsUptoRow, standIns := [], harness := (true, "ef4ed170a1e13fe3fc2b8573dddab2b44aca5ca1cd3fbc5b94d9d6e81505ba9c"), looks := false }, kinds := [], alts := [], laidByText := true, laidKinds := [.data, .data, .data, .data, .data, .pinned], laidTests := true, laidLooks := .later }
def RegistryPutsUptoCardSaid : Prop := Claim7.holds Tryz.pinned (.plain (OpenSpec.upto registryPutsSpec)) registryPutsUptoCard

/-- THE SECOND FORM's CARD OF 'consignorlaw12.RegistryLinks'. -/
def registryLinksUptoCard : Claim7 := { stood := { row := registryLinksUptoRow, standIns := [], harness := (true, "ef4ed170a1e13fe3fc2b8573dddab2b44aca5ca1cd3fbc5b94d9d6e81505ba9c"), looks := false }, kinds := [], alts := [], laidByText := true, laidKinds := [.data, .data, .data, .data, .data, .pinned], laidTests := true, laidLooks := .later }
def RegistryLinksUptoCardSaid : Prop := Claim7.holds Tryz.pinned (.plain (OpenSpec.upto registryLinksSpec)) registryLinksUptoCard

/-- THE SECOND FORM's CARD OF 'consignorlaw12.RegistryOrder'. -/
def registryOrderUptoCard : Claim7 := { stood := { row := registryOrderUptoRow, standIns := [], harness := (true, "ef4ed170a1e13fe3fc2b8573dddab2b44aca5ca1cd3fbc5b94d9d6e81505ba9c"), looks := false }, kinds := [], alts := [], laidByText := true, laidKinds := [.data, .data, .data, .data, .data, .pinned], laidTests := true, laidLooks := .later }
def RegistryOrderUptoCardSaid : Prop := Claim7.holds Tryz.pinned (.plain (OpenSpec.upto registryOrderSpec)) registryOrderUptoCard

/-- THE SECOND FORM's CARD OF 'consignorlaw12.RegistryReads'. -/
def registryReadsUptoCard : Claim7 := { stood := { row := registryReadsUptoRow, standIns := [], harness := (true, "ef4ed170a1e13fe3fc2b8573dddab2b44aca5ca1cd3fbc5b94d9d6e81505ba9c"), looks := false }, kinds := [], alts := [], laidByText := true, laidKinds := [.data, .data, .data, .data, .data, .pinned], laidTests := true, laidLooks := .later }
def RegistryReadsUptoCardSaid : Prop := Claim7.holds Tryz.pinned (.plain (OpenSpec.upto registryReadsSpec)) registryReadsUptoCard

/-- THE SECOND FORM's CARD OF 'consignorlaw12.RegistryWhole'. -/
def registryWholeUptoCard : Claim7 := { stood := { row := registryWholeUptoRow, standIns := [], harness := (true, "ef4ed170a1e13fe3fc2b8573dddab2b44aca5ca1cd3fbc5b94d9d6e81505ba9c"), looks := false }, kinds := [], alts := [], laidByText := true, laidKinds := [.data, .data, .data, .data, .data, .pinned], laidTests := true, laidLooks := .later }
def RegistryWholeUptoCardSaid : Prop := Claim7.holds Tryz.pinned (.plain (OpenSpec.upto registryWholeSpec)) registryWholeUptoCard

/-- THE SECOND FORM's CARD OF 'consignorlaw12.RegistryApart'. -/
def registryApartUptoCard : Claim7 := { stood := { row := registryApartUptoRow, standIns := [], harness := (true, "ef4ed170a1e13fe3fc2b8573dddab2b44aca5ca1cd3fbc5b94d9d6e81505ba9c"), looks := false }, kinds := [], alts := [], laidByText := true, laidKinds := [.data, .data, .data, .data, .data, .pinned], laidTests := true, laidLooks := .later }
def RegistryApartUptoCardSaid : Prop := Claim7.holds Tryz.pinned (.plain (OpenSpec.upto registryApartSpec)) registryApartUptoCard
end Rows
end Go.Proofs.YtjmmcdbogbpedaaGreatDoor
