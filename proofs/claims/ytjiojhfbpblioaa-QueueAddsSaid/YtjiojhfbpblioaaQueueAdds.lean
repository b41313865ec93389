/-
  'QueueAdds' returns true, whatever queue, texts and numbers it is given, and each argument reads afterwards as it read before. No condition.
-/
import Derived.Test.YtjiojhfbpblioaaRows
import Derived.Test.YtjiojhfbpblioaaQueueX
import Derived.ProofKit
namespace Go.Proofs.Ytjiojhfbpblioaa
open Go.ChangeShapes Go.WideShapes Go.ChangeAt Go.RowKit Go.AM

theorem Try.own : ownKnob Try.prog.godebug = none := by kernel_rfl
theorem Try.laidOut : laidOutB Try.prog = true := by kernel_rfl

theorem queueAdds_call (x : DenL [Try.tQueue, .str, .str, .int .i64, .int .i64, .int .i64]) (_hx : inL _ x) : ACall Try.E 7 (argVs Try.E [24, 9, 9, 3, 3, 3] _ x) [] (fun r h' => r = .ret (.bool true) ∧ h' = []) := by
  obtain ⟨q, k, b, n, l, i, _⟩ := x
  exact Try.c7 q k b n l i

set_option maxRecDepth 100000 in
theorem queueAdds_lifted (os : Os) (started : os.Started) (H : Type) (enc : TypeId × Value → H) :
    ReturnsInHanded {} Try.checked os 7 .any (Rows.queueAddsSpec.pre6 enc Try.prog Try.f7 Rows.queueAddsRow.domain false) (Rows.queueAddsSpec.post enc Try.prog Try.f7 false true false false) := by
  refine returnsInHanded_of_change (C := Try.checked) Try.own started (by kernel_rfl) Try.func7
    (ChangeSpec.witness6 (enc := enc) (C := Try.checked) false ⟨#[], #[.agg #[.slice none 0 0, .int .i64 0, .int .i64 0], .string ⟨#[]⟩, .string ⟨#[]⟩, .int .i64 0, .int .i64 0, .int .i64 0], []⟩ 8 (by kernel_rfl) (by kernel_rfl) (by kernel_rfl) (by kernel_rfl)) ?_
  intro W base args ds gs before hval0 hW hcnd _
  refine law_post (E := Try.E) (us := [Try.tQueue, .str, .str, .int .i64, .int .i64, .int .i64]) (bt := 4) Try.envOK Try.tysOKs Try.laidOut (by kernel_rfl) rfl rfl Try.underlying4 rfl ?_ ?_ hval0 hW
  · intro H ds hd
    match ds, hd with
    | [_, _, _, _, _, _], _ => rfl
  · exact queueAdds_call

theorem queueAdds_holds : Rows.QueueAddsSaid :=
  OpenClaim.holds_of_wide 7 Try.f7 rfl rfl rfl rfl rfl rfl rfl ⟨rfl, rfl, rfl, rfl, rfl⟩ rfl rfl rfl rfl rfl (by kernel_rfl) Try.func7 (by kernel_rfl)
    (of_decide_eq_true (by kernel_rfl)) (by unfold Func.isWrapper; first | (rw [if_pos (by decide +kernel)]; kernel_rfl) | (rw [if_neg (by decide +kernel)]; exact ⟨rfl, rfl⟩))
    (fun os started H enc _ => queueAdds_lifted os started H enc)

end Go.Proofs.Ytjiojhfbpblioaa
