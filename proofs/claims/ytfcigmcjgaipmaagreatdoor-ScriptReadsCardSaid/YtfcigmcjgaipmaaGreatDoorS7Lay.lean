/-
  What the listed tables of Go's library give, at this program.
-/
import Derived.Test.YtfcigmcjgaipmaaGreatDoorRows
import Derived.Test.YtfcigmcjgaipmaaGreatDoorS7Env
import Derived.Test.YtfcigmcjgaipmaaGreatDoorBMCard
import Derived.ProofKit
namespace Go.Proofs.YtfcigmcjgaipmaaGreatDoor
open Go.ChangeShapes Go.WideShapes Go.ChangeAt Go.RowKit Go.AM

theorem Tryz.own : ownKnob Tryz.prog.godebug = none := by kernel_rfl
theorem Tryz.laidOut : laidOutB Tryz.prog = true := by kernel_rfl
theorem Tryz.lay {W : World} (h : laidMetH Tryz.prog Rows.scriptPrintsRow.laid W) (hs : W.ShapedOpen Tryz.prog) : LayOK W (Old W) := by
  rw [MakeChecks.laidMetH_plain _ _ _ (by kernel_rfl)] at h
  obtain ⟨ps, hp, _⟩ := h
  obtain ⟨e', fz, h0⟩ := tab_of_laid (name := "internal/strconv.uint64pow10") (g := 1) (t := 151) (e := 135) (k := .u64) (zs := Lib.pow10Tab) (n := 20) (by kernel_rfl) (by kernel_rfl) (by kernel_rfl) (by kernel_rfl) (by kernel_rfl) (by kernel_rfl)
    (.tail _ (.tail _ (.head _))) hp
  obtain ⟨m, h1⟩ := Go.Proofs.cell_of_shapedOpen_int (g := 0) (t := 3) (zero := #[.int .i64 0]) (k := .i64) hs (of_decide_eq_true (by kernel_rfl)) (by kernel_rfl) (by kernel_rfl) (by kernel_rfl) (by kernel_rfl) (by kernel_rfl)
  refine ⟨fun p hp => ?_, fun g hg => ?_⟩
  · rw [List.mem_singleton.1 hp]
    exact ⟨⟨e', fz, h0⟩, fun i _ => (Array.getElem?_eq_some_iff.1 h0).1⟩
  · rw [List.mem_singleton.1 hg]
    exact ⟨m, h1, cell_lt h1⟩
end Go.Proofs.YtfcigmcjgaipmaaGreatDoor
