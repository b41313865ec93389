/-
 What the listed tables give, at this program.
-/
import Derived.Test.YtichcpbhondhhaaGreatDoorRows
import Derived.Test.YtichcpbhondhhaaGreatDoorC6Env
import Derived.Test.YtichcpbhondhhaaGreatDoorBMCard
import Derived.ProofKit
namespace Go.Proofs.YtichcpbhondhhaaGreatDoor
open Go.ChangeShapes Go.WideShapes Go.ChangeAt Go.RowKit Go.AM
theorem Tryz.own : ownKnob Tryz.prog.godebug = none := by kernel_rfl
theorem Tryz.laidOut : laidOutB Tryz.prog = true := by kernel_rfl
theorem Tryz.layOf {W : World} {l : List (String × DataW Unit)} {ps : List MemPlace} (m1 : ("internal/strconv.uint64pow10", Lib.tabData .u64 Lib.pow10Tab) ∈ l) (m2 : ("consignor/digest.keys", Lib.tabData .u32 Plain.keysTab) ∈ l)
  (hp : DataW.LaidVars Tryz.prog W l ps) (hs : W.ShapedOpen Tryz.prog) : LayOK W (Old W) := by
 obtain ⟨e1, f1, h1⟩ := tab_of_laid (name := "internal/strconv.uint64pow10") (g := 2) (t := 170) (e := 76) (k := .u64) (zs := Lib.pow10Tab) (n := 20) (by kernel_rfl) (by kernel_rfl) (by kernel_rfl) (by kernel_rfl) (by kernel_rfl) (by kernel_rfl) m1 hp
 obtain ⟨e0, f0, h0⟩ := tab_of_laid (name := "consignor/digest.keys") (g := 0) (t := 132) (e := 80) (k := .u32) (zs := Plain.keysTab) (n := 64) (by kernel_rfl) (by kernel_rfl) (by kernel_rfl) (by kernel_rfl) (by kernel_rfl) (by kernel_rfl) m2 hp
 obtain ⟨m, h2⟩ := Go.Proofs.cell_of_shapedOpen_int (g := 1) (t := 3) (zero := #[.int .i64 0]) (k := .i64) hs (of_decide_eq_true (by kernel_rfl)) (by kernel_rfl) (by kernel_rfl) (by kernel_rfl) (by kernel_rfl) (by kernel_rfl)
 refine ⟨fun p hp => ?_, fun g hg => ?_⟩
 ·rcases List.mem_cons.1 hp with rfl | hp
  ·exact ⟨⟨e1, f1, h1⟩, fun i _ => (Array.getElem?_eq_some_iff.1 h1).1⟩
  ·rw [List.mem_singleton.1 hp]
   exact ⟨⟨e0, f0, h0⟩, fun i _ => (Array.getElem?_eq_some_iff.1 h0).1⟩
 ·rw [List.mem_singleton.1 hg]
  exact ⟨m, h2, cell_lt h2⟩
theorem Tryz.lay {W : World} (h : laidMetH Tryz.prog Rows.closureWalksRow.laid W) (hs : W.ShapedOpen Tryz.prog) : LayOK W (Old W) := by
 rw [MakeChecks.laidMetH_plain _ _ _ (by kernel_rfl)] at h
 obtain ⟨ps, hp, _⟩ := h
 exact Tryz.layOf (.tail _ (.tail _ (.head _))) (.tail _ (.tail _ (.tail _ (.tail _ (.head _))))) hp hs
end Go.Proofs.YtichcpbhondhhaaGreatDoor
