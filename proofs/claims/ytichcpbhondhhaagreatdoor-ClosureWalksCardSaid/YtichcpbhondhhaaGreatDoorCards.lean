/-
  DERIVED. GIVEN WITH THE SEED: THE CARDS: each row of YtichcpbhondhhaaGreatDoorRows.lean that lists a variable, with what it lists TIED to the program's text (the seventh form; the later family's looks); each row that meets fmt, with fmt's text TOLD by the authors' own Lean function (tested against real Go, not proved from fmt's source: count such statements apart). THE CARD IS WHAT COUNTS. Prove the row's statement (the work); the ties are given (YtichcpbhondhhaaGreatDoorTie.lean); close each card by the builder's one call (the guide's Derived/Test/ToyasCard.lean, 'card_holds'). Laid BY PROGRAM, IN A SANDBOX (cutbox-door.mjs). By AI agents, Wed Nov 11 2026. No macro, syntax, notation, axiom, sorry.
-/
import Derived.Test.YtichcpbhondhhaaGreatDoorRows
import GoSem.ClaimSeven
namespace Go.Proofs.YtichcpbhondhhaaGreatDoor
namespace Rows

/-- THE TIED CARD OF 'consignorlaw06.ClosureWalks'. -/
def closureWalksCard : Claim7 := { stood := { row := closureWalksRow, standIns := [], harness := (true, "2c2c6106ad8142bc3ba777b7e3e5a00373ab9218e64690a90030de38258d1708"), looks := false }, kinds := [], alts := [], laidByText := true, laidKinds := [.data, .data, .data, .data, .data, .pinned], laidTests := true, laidLooks := .later }
def ClosureWalksCardSaid : Prop := Claim7.holds Tryz.pinned (.plain (OpenSpec.ofChange closureWalksSpec)) closureWalksCard

/-- THE TIED CARD OF 'consignorlaw06.ClosureOrder'. -/
def closureOrderCard : Claim7 := { stood := { row := closureOrderRow, standIns := [], harness := (true, "2c2c6106ad8142bc3ba777b7e3e5a00373ab9218e64690a90030de38258d1708"), looks := false }, kinds := [], alts := [], laidByText := true, laidKinds := [.data, .data, .data, .data, .data, .pinned], laidTests := true, laidLooks := .later }
def ClosureOrderCardSaid : Prop := Claim7.holds Tryz.pinned (.plain (OpenSpec.ofChange closureOrderSpec)) closureOrderCard

/-- THE TIED CARD OF 'consignorlaw06.ClosureMore'. -/
def closureMoreCard : Claim7 := { stood := { row := closureMoreRow, standIns := [], harness := (true, "2c2c6106ad8142bc3ba777b7e3e5a00373ab9218e64690a90030de38258d1708"), looks := false }, kinds := [], alts := [], laidByText := true, laidKinds := [.data, .data, .data, .data, .data, .pinned], laidTests := true, laidLooks := .later }
def ClosureMoreCardSaid : Prop := Claim7.holds Tryz.pinned (.plain (OpenSpec.ofChange closureMoreSpec)) closureMoreCard

/-- THE TIED CARD OF 'consignorlaw06.ClosureLacks'. -/
def closureLacksCard : Claim7 := { stood := { row := closureLacksRow, standIns := [], harness := (true, "2c2c6106ad8142bc3ba777b7e3e5a00373ab9218e64690a90030de38258d1708"), looks := false }, kinds := [], alts := [], laidByText := true, laidKinds := [.data, .data, .data, .data, .data, .pinned], laidTests := true, laidLooks := .later }
def ClosureLacksCardSaid : Prop := Claim7.holds Tryz.pinned (.plain (OpenSpec.ofChange closureLacksSpec)) closureLacksCard

/-- THE SECOND FORM's CARD OF 'consignorlaw06.ClosureWalks'. -/
def closureWalksUptoCard : Claim7 := { stood := { row := closureWalksUptoRow, standIns := [], harness := (true, "2c2c6106ad8142bc3ba777b7e3e5a00373ab9218e64690a90030de38258d1708"), looks := false }, kinds := [], alts := [], laidByText := true, laidKinds := [.data, .data, .data, .data, .data, .pinned], laidTests := true, laidLooks := .later }
def ClosureWalksUptoCardSaid : Prop := Claim7.holds Tryz.pinned (.plain (OpenSpec.upto closureWalksSpec)) closureWalksUptoCard

/-- THE SECOND FORM's CARD OF 'consignorlaw06.ClosureOrder'. -/
def closureOrderUptoCard : Claim7 := { stood := { row := closureOrderUptoRow, standIns := [], harness := (true, "2c2c6106ad8142bc3ba777b7e3e5a00373ab9218e64690a90030de38258d1708"), looks := false }, kinds := [], alts := [], laidByText := true, laidKinds := [.data, .data, .data, .data, .data, .pinned], laidTests := true, laidLooks := .later }
def ClosureOrderUptoCardSaid : Prop := Claim7.holds Tryz.pinned (.plain (OpenSpec.upto closureOrderSpec)) closureOrderUptoCard

/-- THE SECOND FORM's CARD OF 'consignorlaw06.ClosureMore'. -/
def closureMoreUptoCard : Claim7 := { stood := { row := closureMoreUptoRow, standIns := [], harness := (true, "2c2c6106ad8142bc3ba777b7e3e5a00373ab9218e64690a90030de38258d1708"), looks := false }, kinds := [], alts := [], laidByText := true, laidKinds := [.data, .data, .data, .data, .data, .pinned], laidTests := true, laidLooks := .later }
def ClosureMoreUptoCardSaid : Prop := Claim7.holds Tryz.pinned (.plain (OpenSpec.upto closureMoreSpec)) closureMoreUptoCard

/-- THE SECOND FORM's CARD OF 'consignorlaw06.ClosureLacks'. -/
def closureLacksUptoCard : Claim7 := { stood := { row := closureLacksUptoRow, standIns := [], harness := (true, "2c2c6106ad8142bc3ba777b7e3e5a00373ab9218e64690a90030de38258d1708"), looks := false }, kinds := [], alts := [], laidByText := true, laidKinds := [.data, .data, .data, .data, .data, .pinned], laidTests := true, laidLooks := .later }
def ClosureLacksUptoCardSaid : Prop := Claim7.holds Tryz.pinned (.plain (OpenSpec.upto closureLacksSpec)) closureLacksUptoCard
end Rows
end Go.Proofs.YtichcpbhondhhaaGreatDoor
