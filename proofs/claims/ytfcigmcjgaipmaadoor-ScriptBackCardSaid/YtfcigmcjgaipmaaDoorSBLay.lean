/-
  What the start lays, at this program.
-/
import Derived.Test.YtfcigmcjgaipmaaDoorRows
import Derived.Test.YtfcigmcjgaipmaaDoorSBEnv
import Derived.Test.YtfcigmcjgaipmaaDoorBMCard
import Derived.ProofKit
namespace Go.Proofs.YtfcigmcjgaipmaaDoor
open Go.ChangeShapes Go.WideShapes Go.ChangeAt Go.RowKit Go.AM

theorem Tryd.own : ownKnob Tryd.prog.godebug = none := by kernel_rfl
theorem Tryd.laidOut : laidOutB Tryd.prog = true := by kernel_rfl
theorem Tryd.lay {W : World} (_ : laidMetH Tryd.prog Rows.scriptBackRow.laid W) (hs : W.ShapedOpen Tryd.prog) : LayOK W (Old W) := by
  obtain ⟨m, h1⟩ := Go.Proofs.cell_of_shapedOpen_int (g := 0) (t := 3) (zero := #[.int .i64 0]) (k := .i64) hs (of_decide_eq_true (by kernel_rfl)) (by kernel_rfl) (by kernel_rfl) (by kernel_rfl) (by kernel_rfl) (by kernel_rfl)
  refine ⟨fun p hp => (by cases hp), fun g hg => ?_⟩
  rw [List.mem_singleton.1 hg]
  exact ⟨m, h1, cell_lt h1⟩
end Go.Proofs.YtfcigmcjgaipmaaDoor
