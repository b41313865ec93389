/-
  'WireTimes' returns true, whatever gaps and place it is given, and each argument reads afterwards as it read before. No condition.
-/
import Derived.Test.YtfhcedpnofidnaaRows
import Derived.Test.YtfhcedpnofidnaaWireJ
import Derived.ProofKit
namespace Go.Proofs.Ytfhcedpnofidnaa
open Go.ChangeShapes Go.WideShapes Go.ChangeAt Go.RowKit Go.AM

theorem Try.own : ownKnob Try.prog.godebug = none := by kernel_rfl
theorem Try.laidOut : laidOutB Try.prog = true := by kernel_rfl

theorem wireTimes_call (x : DenL [.sl (.int .i64), .int .i64]) (hx : inL _ x) : ACall Try.E 5 (argVs Try.E [23, 3] _ x) [] (fun r h' => r = .ret (.bool true) ∧ h' = []) := by
  obtain ⟨l, a, _⟩ := x; obtain ⟨h1, h2, _⟩ := hx
  exact Try.c5 l a h1.1 h2

set_option maxRecDepth 100000 in
theorem wireTimes_lifted (os : Os) (started : os.Started) (H : Type) (enc : TypeId × Value → H) :
    ReturnsInHanded {} Try.checked os 5 .any (Rows.wireTimesSpec.pre6 enc Try.prog Try.f5 Rows.wireTimesRow.domain false) (Rows.wireTimesSpec.post enc Try.prog Try.f5 false true false false) := by
  refine returnsInHanded_of_change (C := Try.checked) Try.own started (by kernel_rfl) Try.func5
    (ChangeSpec.witness6 (enc := enc) (C := Try.checked) false ⟨#[], #[.slice none 0 0, .int .i64 0], []⟩ 8 (by kernel_rfl) (by kernel_rfl) (by kernel_rfl) (by kernel_rfl)) ?_
  intro W base args ds gs before hval0 hW hcnd _
  refine law_post (E := Try.E) (us := [.sl (.int .i64), .int .i64]) (bt := 4) Try.envOK Try.tysOKs Try.laidOut (by kernel_rfl) rfl rfl Try.underlying4 rfl ?_ ?_ hval0 hW
  · intro H ds hd
    match ds, hd with
    | [_, _], _ => rfl
  · exact wireTimes_call

theorem wireTimes_holds : Rows.WireTimesSaid :=
  OpenClaim.holds_of_wide 5 Try.f5 rfl rfl rfl rfl rfl rfl rfl ⟨rfl, rfl, rfl, rfl, rfl⟩ rfl rfl rfl rfl rfl (by kernel_rfl) Try.func5 (by kernel_rfl)
    (of_decide_eq_true (by kernel_rfl)) (by unfold Func.isWrapper; first | (rw [if_pos (by decide +kernel)]; kernel_rfl) | (rw [if_neg (by decide +kernel)]; exact ⟨rfl, rfl⟩))
    (fun os started H enc _ => wireTimes_lifted os started H enc)

end Go.Proofs.Ytfhcedpnofidnaa
