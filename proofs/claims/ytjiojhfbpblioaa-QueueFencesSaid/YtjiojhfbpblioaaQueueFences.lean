/-
  'QueueFences' returns true, whatever acts it is given, and each argument reads afterwards as it read before. No condition.
-/
import Derived.Test.YtjiojhfbpblioaaRows
import Derived.Test.YtjiojhfbpblioaaQueueU
import Derived.ProofKit
namespace Go.Proofs.Ytjiojhfbpblioaa
open Go.ChangeShapes Go.WideShapes Go.ChangeAt Go.RowKit Go.AM

theorem Try.own : ownKnob Try.prog.godebug = none := by kernel_rfl
theorem Try.laidOut : laidOutB Try.prog = true := by kernel_rfl

theorem queueFences_call (x : DenL [.sl Try.tAct]) (hx : inL _ x) : ACall Try.E 9 (argVs Try.E [67] _ x) [] (fun r h' => r = .ret (.bool true) ∧ h' = []) := by
  obtain ⟨l, _⟩ := x; obtain ⟨h1, _⟩ := hx
  exact Try.c9 l h1.1 (fun a ha => (h1.2 a ha).2.1)

set_option maxRecDepth 100000 in
theorem queueFences_lifted (os : Os) (started : os.Started) (H : Type) (enc : TypeId × Value → H) :
    ReturnsInHanded {} Try.checked os 9 .any (Rows.queueFencesSpec.pre6 enc Try.prog Try.f9 Rows.queueFencesRow.domain false) (Rows.queueFencesSpec.post enc Try.prog Try.f9 false true false false) := by
  refine returnsInHanded_of_change (C := Try.checked) Try.own started (by kernel_rfl) Try.func9
    (ChangeSpec.witness6 (enc := enc) (C := Try.checked) false ⟨#[], #[.slice none 0 0], []⟩ 8 (by kernel_rfl) (by kernel_rfl) (by kernel_rfl) (by kernel_rfl)) ?_
  intro W base args ds gs before hval0 hW hcnd _
  refine law_post (E := Try.E) (us := [.sl Try.tAct]) (bt := 4) Try.envOK Try.tysOKs Try.laidOut (by kernel_rfl) rfl rfl Try.underlying4 rfl ?_ ?_ hval0 hW
  · intro H ds hd
    match ds, hd with
    | [_], _ => rfl
  · exact queueFences_call

theorem queueFences_holds : Rows.QueueFencesSaid :=
  OpenClaim.holds_of_wide 9 Try.f9 rfl rfl rfl rfl rfl rfl rfl ⟨rfl, rfl, rfl, rfl, rfl⟩ rfl rfl rfl rfl rfl (by kernel_rfl) Try.func9 (by kernel_rfl)
    (of_decide_eq_true (by kernel_rfl)) (by unfold Func.isWrapper; first | (rw [if_pos (by decide +kernel)]; kernel_rfl) | (rw [if_neg (by decide +kernel)]; exact ⟨rfl, rfl⟩))
    (fun os started H enc _ => queueFences_lifted os started H enc)

end Go.Proofs.Ytjiojhfbpblioaa
