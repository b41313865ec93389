/-
  'QueueTries' returns true, whatever key and time it is given, and each argument reads afterwards as it read before. No condition.
-/
import Derived.Test.YtjiojhfbpblioaaRows
import Derived.Test.YtjiojhfbpblioaaQueueO
import Derived.ProofKit
namespace Go.Proofs.Ytjiojhfbpblioaa
open Go.ChangeShapes Go.WideShapes Go.ChangeAt Go.RowKit Go.AM

theorem Try.own : ownKnob Try.prog.godebug = none := by kernel_rfl
theorem Try.laidOut : laidOutB Try.prog = true := by kernel_rfl

theorem queueTries_call (x : DenL [.str, .int .i64]) (_hx : inL _ x) : ACall Try.E 6 (argVs Try.E [9, 3] _ x) [] (fun r h' => r = .ret (.bool true) ∧ h' = []) := by
  obtain ⟨q, a, _⟩ := x
  exact Try.c6 q a

set_option maxRecDepth 100000 in
theorem queueTries_lifted (os : Os) (started : os.Started) (H : Type) (enc : TypeId × Value → H) :
    ReturnsInHanded {} Try.checked os 6 .any (Rows.queueTriesSpec.pre6 enc Try.prog Try.f6 Rows.queueTriesRow.domain false) (Rows.queueTriesSpec.post enc Try.prog Try.f6 false true false false) := by
  refine returnsInHanded_of_change (C := Try.checked) Try.own started (by kernel_rfl) Try.func6
    (ChangeSpec.witness6 (enc := enc) (C := Try.checked) false ⟨#[], #[.string ⟨#[]⟩, .int .i64 0], []⟩ 8 (by kernel_rfl) (by kernel_rfl) (by kernel_rfl) (by kernel_rfl)) ?_
  intro W base args ds gs before hval0 hW hcnd _
  refine law_post (E := Try.E) (us := [.str, .int .i64]) (bt := 4) Try.envOK Try.tysOKs Try.laidOut (by kernel_rfl) rfl rfl Try.underlying4 rfl ?_ ?_ hval0 hW
  · intro H ds hd
    match ds, hd with
    | [_, _], _ => rfl
  · exact queueTries_call

theorem queueTries_holds : Rows.QueueTriesSaid :=
  OpenClaim.holds_of_wide 6 Try.f6 rfl rfl rfl rfl rfl rfl rfl ⟨rfl, rfl, rfl, rfl, rfl⟩ rfl rfl rfl rfl rfl (by kernel_rfl) Try.func6 (by kernel_rfl)
    (of_decide_eq_true (by kernel_rfl)) (by unfold Func.isWrapper; first | (rw [if_pos (by decide +kernel)]; kernel_rfl) | (rw [if_neg (by decide +kernel)]; exact ⟨rfl, rfl⟩))
    (fun os started H enc _ => queueTries_lifted os started H enc)

end Go.Proofs.Ytjiojhfbpblioaa
