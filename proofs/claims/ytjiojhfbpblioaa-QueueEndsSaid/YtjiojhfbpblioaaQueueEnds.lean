/-
  'QueueEnds' returns true, whatever queue, numbers and flag it is given, and each argument reads afterwards as it read before. No condition.
-/
import Derived.Test.YtjiojhfbpblioaaRows
import Derived.Test.YtjiojhfbpblioaaQueueR
import Derived.ProofKit
namespace Go.Proofs.Ytjiojhfbpblioaa
open Go.ChangeShapes Go.WideShapes Go.ChangeAt Go.RowKit Go.AM

theorem Try.own : ownKnob Try.prog.godebug = none := by kernel_rfl
theorem Try.laidOut : laidOutB Try.prog = true := by kernel_rfl

theorem queueEnds_call (x : DenL [Try.tQueue, .int .i64, .int .i64, .int .i64, .int .i64, .int .i64, .bool]) (hx : inL _ x) : ACall Try.E 8 (argVs Try.E [24, 3, 3, 3, 3, 3, 4] _ x) [] (fun r h' => r = .ret (.bool true) ∧ h' = []) := by
  obtain ⟨q, a, b, c, d, e, f, _⟩ := x; obtain ⟨h1, h2, h3, h4, h5, h6, _⟩ := hx
  exact Try.c8 q a b c d e f h6

set_option maxRecDepth 100000 in
theorem queueEnds_lifted (os : Os) (started : os.Started) (H : Type) (enc : TypeId × Value → H) :
    ReturnsInHanded {} Try.checked os 8 .any (Rows.queueEndsSpec.pre6 enc Try.prog Try.f8 Rows.queueEndsRow.domain false) (Rows.queueEndsSpec.post enc Try.prog Try.f8 false true false false) := by
  refine returnsInHanded_of_change (C := Try.checked) Try.own started (by kernel_rfl) Try.func8
    (ChangeSpec.witness6 (enc := enc) (C := Try.checked) false ⟨#[], #[.agg #[.slice none 0 0, .int .i64 0, .int .i64 0], .int .i64 0, .int .i64 0, .int .i64 0, .int .i64 0, .int .i64 0, .bool false], []⟩ 8 (by kernel_rfl) (by kernel_rfl) (by kernel_rfl) (by kernel_rfl)) ?_
  intro W base args ds gs before hval0 hW hcnd _
  refine law_post (E := Try.E) (us := [Try.tQueue, .int .i64, .int .i64, .int .i64, .int .i64, .int .i64, .bool]) (bt := 4) Try.envOK Try.tysOKs Try.laidOut (by kernel_rfl) rfl rfl Try.underlying4 rfl ?_ ?_ hval0 hW
  · intro H ds hd
    match ds, hd with
    | [_, _, _, _, _, _, _], _ => rfl
  · exact queueEnds_call

theorem queueEnds_holds : Rows.QueueEndsSaid :=
  OpenClaim.holds_of_wide 8 Try.f8 rfl rfl rfl rfl rfl rfl rfl ⟨rfl, rfl, rfl, rfl, rfl⟩ rfl rfl rfl rfl rfl (by kernel_rfl) Try.func8 (by kernel_rfl)
    (of_decide_eq_true (by kernel_rfl)) (by unfold Func.isWrapper; first | (rw [if_pos (by decide +kernel)]; kernel_rfl) | (rw [if_neg (by decide +kernel)]; exact ⟨rfl, rfl⟩))
    (fun os started H enc _ => queueEnds_lifted os started H enc)

end Go.Proofs.Ytjiojhfbpblioaa
