/-
  'WireOnce' returns true, whatever bodies and acts it is given, and each argument reads afterwards as it read before. No condition.
-/
import Derived.Test.YtgnddcjlkjnifaaRows
import Derived.Test.YtgnddcjlkjnifaaW1L
import Derived.Test.YtgnddcjlkjnifaaW1C
import Derived.ProofKit
namespace Go.Proofs.Ytgnddcjlkjnifaa
open Go.ChangeShapes Go.WideShapes Go.ChangeAt Go.RowKit Go.AM

theorem Try.own : ownKnob Try.prog.godebug = none := by kernel_rfl
theorem Try.laidOut : laidOutB Try.prog = true := by kernel_rfl

theorem wireOnce_call (x : DenL [.sl .str, .sl (.int .i64)]) (hx : inL _ x) : ACall Try.E 3 (argVs Try.E [22, 23] _ x) [] (fun r h' => r = .ret (.bool true) ∧ h' = []) := by
  obtain ⟨bodies, acts, _⟩ := x; obtain ⟨h1, h2, _⟩ := hx
  exact (Try.r_law13_WireOnce () (bodies, acts) true (Plain.WireOnce_holds h1.1 h2.1)).mono fun r h' h => h

set_option maxRecDepth 100000 in
theorem wireOnce_lifted (os : Os) (started : os.Started) (H : Type) (enc : TypeId × Value → H) :
    ReturnsInHanded {} Try.checked os 3 .any (Rows.wireOnceSpec.pre6 enc Try.prog Try.f3 Rows.wireOnceRow.domain false) (Rows.wireOnceSpec.post enc Try.prog Try.f3 false true false false) := by
  refine returnsInHanded_of_change (C := Try.checked) Try.own started (by kernel_rfl) Try.func3
    (ChangeSpec.witness6 (enc := enc) (C := Try.checked) false ⟨#[], #[.slice none 0 0, .slice none 0 0], []⟩ 8 (by kernel_rfl) (by kernel_rfl) (by kernel_rfl) (by kernel_rfl)) ?_
  intro W base args ds gs before hval0 hW hcnd _
  refine law_post (E := Try.E) (us := [.sl .str, .sl (.int .i64)]) (bt := 4) Try.envOK Try.tysOKs Try.laidOut (by kernel_rfl) rfl rfl Try.underlying4 rfl ?_ ⟨(fun _ h => by cases h), (fun _ h => by cases h)⟩ ?_ hval0 hW
  · intro H ds hd
    match ds, hd with
    | [_, _], _ => rfl
  · exact wireOnce_call

theorem wireOnce_holds : Rows.WireOnceSaid :=
  OpenClaim.holds_of_wide 3 Try.f3 rfl rfl rfl rfl rfl rfl rfl ⟨rfl, rfl, rfl, rfl, rfl⟩ rfl rfl rfl rfl rfl (by kernel_rfl) Try.func3 (by kernel_rfl)
    (of_decide_eq_true (by kernel_rfl)) (by unfold Func.isWrapper; first | (rw [if_pos (by decide +kernel)]; kernel_rfl) | (rw [if_neg (by decide +kernel)]; exact ⟨rfl, rfl⟩))
    (fun os started H enc _ => wireOnce_lifted os started H enc)

end Go.Proofs.Ytgnddcjlkjnifaa
