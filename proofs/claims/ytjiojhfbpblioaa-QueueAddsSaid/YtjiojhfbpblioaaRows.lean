/-
  No cell of these rows narrows 'for every input' (looked for: loops, veiled, ifaces, maps, wideKeys, modest, calm, conditions, laid).
  DERIVED. THE GIVEN ROWS OF THIS SEAT. 7 by the template 'for every input the law returns true; each argument reads behind the call as it read before'; 0 by the template 'total and deterministic' (their statements: YtjiojhfbpblioaaTotals.lean).
  GIVEN WITH THE SEED: the statements are not yours to turn. If you find one false, say at which input.
  Laid BY PROGRAM, IN A SANDBOX (cutbox-rows.mjs): the forced cells as the released guide's own fill.sh prints them over the translation 107a52b52a12faba… (all of the seat's roots in one cut). By AI agents, Wed Nov 11 2026. No macro, syntax, notation, axiom, sorry.
-/
import Derived.Test.YtjiojhfbpblioaaChecked
import GoSem.Claim
import GoSem.ClaimJoined
import GoSem.ClaimMapViews
import Derived.JoinedTies
import Derived.KernelRfl
namespace Go.Proofs.Ytjiojhfbpblioaa
/- THE CELL 'sum', in the pinned program and in every row, IS THE sha256 OF THE DUMP (.gsa) THAT YtjiojhfbpblioaaProg.lean LOADS. Nothing in Lean hashes anything: it is a label: what it is worth is what the hold of that sum in a sandbox is worth. -/
noncomputable def Try.pinned : Pinned := { name := "ytjiojhfbpblioaa", sum := "107a52b52a12faba3162354c5209e3ce91111ad49a861c33eaf4270541f322a3", checked := Try.checked }
namespace Rows
def none {H : Type} : Left H := { results := [], args := [] }

/-- 'consignorlaw15.QueueLeases': WHATEVER THE INPUT: true; the input reads as it did. -/
def queueLeasesSpec : ChangeSpec := { name := "queueLeases", fn := fun _ => fun
  | [d1, d2, d3] => { results := [.lit (.bool true)], args := [d1, d2, d3] }
  | _ => none }
def queueLeasesRow : OpenClaim := { program := "ytjiojhfbpblioaa", sum := "107a52b52a12faba3162354c5209e3ce91111ad49a861c33eaf4270541f322a3", func := "consignor/consignorlaw15.QueueLeases", spec := "queueLeases", unfollowed := true, recurses := true, apart := false }
def QueueLeasesSaid : Prop := queueLeasesRow.holds Try.pinned (OpenSpec.ofChange queueLeasesSpec)

/-- ITS FALSE NEIGHBOUR: 'it returns false'. Refute it at one input. -/
def queueLeasesWrong : ChangeSpec := { name := "queueLeases", fn := fun _ => fun
  | [d1, d2, d3] => { results := [.lit (.bool false)], args := [d1, d2, d3] }
  | _ => none }
def QueueLeasesWrongFalsely : Prop := queueLeasesRow.holds Try.pinned (OpenSpec.ofChange queueLeasesWrong)

/-- 'consignorlaw15.QueueKeeps': WHATEVER THE INPUT: true; the input reads as it did. -/
def queueKeepsSpec : ChangeSpec := { name := "queueKeeps", fn := fun _ => fun
  | [d1, d2, d3, d4, d5, d6] => { results := [.lit (.bool true)], args := [d1, d2, d3, d4, d5, d6] }
  | _ => none }
def queueKeepsRow : OpenClaim := { program := "ytjiojhfbpblioaa", sum := "107a52b52a12faba3162354c5209e3ce91111ad49a861c33eaf4270541f322a3", func := "consignor/consignorlaw15.QueueKeeps", spec := "queueKeeps", unfollowed := true, recurses := true, apart := false }
def QueueKeepsSaid : Prop := queueKeepsRow.holds Try.pinned (OpenSpec.ofChange queueKeepsSpec)

/-- ITS FALSE NEIGHBOUR: 'it returns false'. Refute it at one input. -/
def queueKeepsWrong : ChangeSpec := { name := "queueKeeps", fn := fun _ => fun
  | [d1, d2, d3, d4, d5, d6] => { results := [.lit (.bool false)], args := [d1, d2, d3, d4, d5, d6] }
  | _ => none }
def QueueKeepsWrongFalsely : Prop := queueKeepsRow.holds Try.pinned (OpenSpec.ofChange queueKeepsWrong)

/-- 'consignorlaw15.QueueTurns': WHATEVER THE INPUT: true; the input reads as it did. -/
def queueTurnsSpec : ChangeSpec := { name := "queueTurns", fn := fun _ => fun
  | [d] => { results := [.lit (.bool true)], args := [d] }
  | _ => none }
def queueTurnsRow : OpenClaim := { program := "ytjiojhfbpblioaa", sum := "107a52b52a12faba3162354c5209e3ce91111ad49a861c33eaf4270541f322a3", func := "consignor/consignorlaw15.QueueTurns", spec := "queueTurns", unfollowed := true, recurses := true, apart := false }
def QueueTurnsSaid : Prop := queueTurnsRow.holds Try.pinned (OpenSpec.ofChange queueTurnsSpec)

/-- ITS FALSE NEIGHBOUR: 'it returns false'. Refute it at one input. -/
def queueTurnsWrong : ChangeSpec := { name := "queueTurns", fn := fun _ => fun
  | [d] => { results := [.lit (.bool false)], args := [d] }
  | _ => none }
def QueueTurnsWrongFalsely : Prop := queueTurnsRow.holds Try.pinned (OpenSpec.ofChange queueTurnsWrong)

/-- 'consignorlaw15.QueueTries': WHATEVER THE INPUT: true; the input reads as it did. -/
def queueTriesSpec : ChangeSpec := { name := "queueTries", fn := fun _ => fun
  | [d1, d2] => { results := [.lit (.bool true)], args := [d1, d2] }
  | _ => none }
def queueTriesRow : OpenClaim := { program := "ytjiojhfbpblioaa", sum := "107a52b52a12faba3162354c5209e3ce91111ad49a861c33eaf4270541f322a3", func := "consignor/consignorlaw15.QueueTries", spec := "queueTries", unfollowed := true, recurses := true, apart := false }
def QueueTriesSaid : Prop := queueTriesRow.holds Try.pinned (OpenSpec.ofChange queueTriesSpec)

/-- ITS FALSE NEIGHBOUR: 'it returns false'. Refute it at one input. -/
def queueTriesWrong : ChangeSpec := { name := "queueTries", fn := fun _ => fun
  | [d1, d2] => { results := [.lit (.bool false)], args := [d1, d2] }
  | _ => none }
def QueueTriesWrongFalsely : Prop := queueTriesRow.holds Try.pinned (OpenSpec.ofChange queueTriesWrong)

/-- 'consignorlaw15.QueueAdds': WHATEVER THE INPUT: true; the input reads as it did. -/
def queueAddsSpec : ChangeSpec := { name := "queueAdds", fn := fun _ => fun
  | [d1, d2, d3, d4, d5, d6] => { results := [.lit (.bool true)], args := [d1, d2, d3, d4, d5, d6] }
  | _ => none }
def queueAddsRow : OpenClaim := { program := "ytjiojhfbpblioaa", sum := "107a52b52a12faba3162354c5209e3ce91111ad49a861c33eaf4270541f322a3", func := "consignor/consignorlaw15.QueueAdds", spec := "queueAdds", unfollowed := true, recurses := true, apart := false }
def QueueAddsSaid : Prop := queueAddsRow.holds Try.pinned (OpenSpec.ofChange queueAddsSpec)

/-- ITS FALSE NEIGHBOUR: 'it returns false'. Refute it at one input. -/
def queueAddsWrong : ChangeSpec := { name := "queueAdds", fn := fun _ => fun
  | [d1, d2, d3, d4, d5, d6] => { results := [.lit (.bool false)], args := [d1, d2, d3, d4, d5, d6] }
  | _ => none }
def QueueAddsWrongFalsely : Prop := queueAddsRow.holds Try.pinned (OpenSpec.ofChange queueAddsWrong)

/-- 'consignorlaw15.QueueEnds': WHATEVER THE INPUT: true; the input reads as it did. -/
def queueEndsSpec : ChangeSpec := { name := "queueEnds", fn := fun _ => fun
  | [d1, d2, d3, d4, d5, d6, d7] => { results := [.lit (.bool true)], args := [d1, d2, d3, d4, d5, d6, d7] }
  | _ => none }
def queueEndsRow : OpenClaim := { program := "ytjiojhfbpblioaa", sum := "107a52b52a12faba3162354c5209e3ce91111ad49a861c33eaf4270541f322a3", func := "consignor/consignorlaw15.QueueEnds", spec := "queueEnds", unfollowed := true, recurses := true, apart := false }
def QueueEndsSaid : Prop := queueEndsRow.holds Try.pinned (OpenSpec.ofChange queueEndsSpec)

/-- ITS FALSE NEIGHBOUR: 'it returns false'. Refute it at one input. -/
def queueEndsWrong : ChangeSpec := { name := "queueEnds", fn := fun _ => fun
  | [d1, d2, d3, d4, d5, d6, d7] => { results := [.lit (.bool false)], args := [d1, d2, d3, d4, d5, d6, d7] }
  | _ => none }
def QueueEndsWrongFalsely : Prop := queueEndsRow.holds Try.pinned (OpenSpec.ofChange queueEndsWrong)

/-- 'consignorlaw15.QueueFences': WHATEVER THE INPUT: true; the input reads as it did. -/
def queueFencesSpec : ChangeSpec := { name := "queueFences", fn := fun _ => fun
  | [d] => { results := [.lit (.bool true)], args := [d] }
  | _ => none }
def queueFencesRow : OpenClaim := { program := "ytjiojhfbpblioaa", sum := "107a52b52a12faba3162354c5209e3ce91111ad49a861c33eaf4270541f322a3", func := "consignor/consignorlaw15.QueueFences", spec := "queueFences", unfollowed := true, recurses := true, apart := false }
def QueueFencesSaid : Prop := queueFencesRow.holds Try.pinned (OpenSpec.ofChange queueFencesSpec)

/-- ITS FALSE NEIGHBOUR: 'it returns false'. Refute it at one input. -/
def queueFencesWrong : ChangeSpec := { name := "queueFences", fn := fun _ => fun
  | [d] => { results := [.lit (.bool false)], args := [d] }
  | _ => none }
def QueueFencesWrongFalsely : Prop := queueFencesRow.holds Try.pinned (OpenSpec.ofChange queueFencesWrong)

/- THE SECOND FORM. 'bulk': how many values and letters a reading holds, each counted each time it is reached (what is shared counts as often as it is met; a slice's spare places count too). A statement '..UptoSaid' is the law's where the arguments, and the package variables that the reading takes, are together of bulk at most 1048576: NARROWER than '..Said'. Prove '..Said' where nothing that the law and all that it calls make is longer than what came in: it says more and counts as full. Else prove '..UptoSaid'. A law counts once. -/
mutual
def uptoBulk {H : Type} : DataW H → Nat
  | .lit (.string bytes) => bytes.length + 1
  | .lit _ => 1
  | .nil => 1
  | .ptr d => uptoBulk d + 1
  | .slice elems spare => uptoBulkAll elems + uptoBulkAll spare + 1
  | .agg parts => uptoBulkAll parts + 1
  | .iface _ d => uptoBulk d + 1
  | .map entries => uptoBulkEntries entries + 1
  | .held _ => 1
def uptoBulkAll {H : Type} : List (DataW H) → Nat
  | [] => 0
  | d :: r => uptoBulk d + uptoBulkAll r
def uptoBulkEntries {H : Type} : List (Lit × DataW H) → Nat
  | [] => 0
  | x :: r => uptoBulkEntry x + uptoBulkEntries r
def uptoBulkEntry {H : Type} : Lit × DataW H → Nat
  | (.string bytes, d) => bytes.length + uptoBulk d + 1
  | (_, d) => uptoBulk d + 1
 end
def uptoSmall : (H : Type) → List (DataW H) → Bool := fun _ ds => decide (uptoBulkAll ds ≤ 1048576)
def OpenSpec.upto (s : _root_.Go.ChangeSpec) : _root_.Go.OpenSpec := { _root_.Go.OpenSpec.ofChange s with cond := some uptoSmall }

/-- 'consignorlaw15.QueueLeases', WHERE WHAT IT READS IS OF BULK AT MOST 1048576: true; the input reads as it did. -/
def queueLeasesUptoRow : OpenClaim := { program := "ytjiojhfbpblioaa", sum := "107a52b52a12faba3162354c5209e3ce91111ad49a861c33eaf4270541f322a3", func := "consignor/consignorlaw15.QueueLeases", spec := "queueLeases", unfollowed := true, recurses := true, apart := false, narrowed := true }
def QueueLeasesUptoSaid : Prop := queueLeasesUptoRow.holds Try.pinned (OpenSpec.upto queueLeasesSpec)

/-- 'consignorlaw15.QueueKeeps', WHERE WHAT IT READS IS OF BULK AT MOST 1048576: true; the input reads as it did. -/
def queueKeepsUptoRow : OpenClaim := { program := "ytjiojhfbpblioaa", sum := "107a52b52a12faba3162354c5209e3ce91111ad49a861c33eaf4270541f322a3", func := "consignor/consignorlaw15.QueueKeeps", spec := "queueKeeps", unfollowed := true, recurses := true, apart := false, narrowed := true }
def QueueKeepsUptoSaid : Prop := queueKeepsUptoRow.holds Try.pinned (OpenSpec.upto queueKeepsSpec)

/-- 'consignorlaw15.QueueTurns', WHERE WHAT IT READS IS OF BULK AT MOST 1048576: true; the input reads as it did. -/
def queueTurnsUptoRow : OpenClaim := { program := "ytjiojhfbpblioaa", sum := "107a52b52a12faba3162354c5209e3ce91111ad49a861c33eaf4270541f322a3", func := "consignor/consignorlaw15.QueueTurns", spec := "queueTurns", unfollowed := true, recurses := true, apart := false, narrowed := true }
def QueueTurnsUptoSaid : Prop := queueTurnsUptoRow.holds Try.pinned (OpenSpec.upto queueTurnsSpec)

/-- 'consignorlaw15.QueueTries', WHERE WHAT IT READS IS OF BULK AT MOST 1048576: true; the input reads as it did. -/
def queueTriesUptoRow : OpenClaim := { program := "ytjiojhfbpblioaa", sum := "107a52b52a12faba3162354c5209e3ce91111ad49a861c33eaf4270541f322a3", func := "consignor/consignorlaw15.QueueTries", spec := "queueTries", unfollowed := true, recurses := true, apart := false, narrowed := true }
def QueueTriesUptoSaid : Prop := queueTriesUptoRow.holds Try.pinned (OpenSpec.upto queueTriesSpec)

/-- 'consignorlaw15.QueueAdds', WHERE WHAT IT READS IS OF BULK AT MOST 1048576: true; the input reads as it did. -/
def queueAddsUptoRow : OpenClaim := { program := "ytjiojhfbpblioaa", sum := "107a52b52a12faba3162354c5209e3ce91111ad49a861c33eaf4270541f322a3", func := "consignor/consignorlaw15.QueueAdds", spec := "queueAdds", unfollowed := true, recurses := true, apart := false, narrowed := true }
def QueueAddsUptoSaid : Prop := queueAddsUptoRow.holds Try.pinned (OpenSpec.upto queueAddsSpec)

/-- 'consignorlaw15.QueueEnds', WHERE WHAT IT READS IS OF BULK AT MOST 1048576: true; the input reads as it did. -/
def queueEndsUptoRow : OpenClaim := { program := "ytjiojhfbpblioaa", sum := "107a52b52a12faba3162354c5209e3ce91111ad49a861c33eaf4270541f322a3", func := "consignor/consignorlaw15.QueueEnds", spec := "queueEnds", unfollowed := true, recurses := true, apart := false, narrowed := true }
def QueueEndsUptoSaid : Prop := queueEndsUptoRow.holds Try.pinned (OpenSpec.upto queueEndsSpec)

/-- 'consignorlaw15.QueueFences', WHERE WHAT IT READS IS OF BULK AT MOST 1048576: true; the input reads as it did. -/
def queueFencesUptoRow : OpenClaim := { program := "ytjiojhfbpblioaa", sum := "107a52b52a12faba3162354c5209e3ce91111ad49a861c33eaf4270541f322a3", func := "consignor/consignorlaw15.QueueFences", spec := "queueFences", unfollowed := true, recurses := true, apart := false, narrowed := true }
def QueueFencesUptoSaid : Prop := queueFencesUptoRow.holds Try.pinned (OpenSpec.upto queueFencesSpec)

end Rows
end Go.Proofs.Ytjiojhfbpblioaa
