/-
  'WireCalls' returns true, whatever net, numbers and text it is given, and each argument reads afterwards as it read before. No condition.
-/
import Derived.Test.YtfhcedpnofidnaaRows
import Derived.Test.YtfhcedpnofidnaaWireK
import Derived.ProofKit
namespace Go.Proofs.Ytfhcedpnofidnaa
open Go.ChangeShapes Go.WideShapes Go.ChangeAt Go.RowKit Go.AM

theorem Try.own : ownKnob Try.prog.godebug = none := by kernel_rfl
theorem Try.laidOut : laidOutB Try.prog = true := by kernel_rfl

theorem wireCalls_call (x : DenL [Try.tNet, .int .i64, .int .i64, .int .i64, .str]) (hx : inL _ x) : ACall Try.E 6 (argVs Try.E [26, 3, 3, 3, 9] _ x) [] (fun r h' => r = .ret (.bool true) ∧ h' = []) := by
  obtain ⟨n, a, b, c, d, _⟩ := x; obtain ⟨h1, h2, h3, h4, h5, _⟩ := hx
  exact Try.c6 n a b c d h1.1.1 h4 h5

set_option maxRecDepth 100000 in
theorem wireCalls_lifted (os : Os) (started : os.Started) (H : Type) (enc : TypeId × Value → H) :
    ReturnsInHanded {} Try.checked os 6 .any (Rows.wireCallsSpec.pre6 enc Try.prog Try.f6 Rows.wireCallsRow.domain false) (Rows.wireCallsSpec.post enc Try.prog Try.f6 false true false false) := by
  refine returnsInHanded_of_change (C := Try.checked) Try.own started (by kernel_rfl) Try.func6
    (ChangeSpec.witness6 (enc := enc) (C := Try.checked) false ⟨#[], #[.agg #[.slice none 0 0, .int .i64 0, .int .i64 0], .int .i64 0, .int .i64 0, .int .i64 0, .string ⟨#[]⟩], []⟩ 8 (by kernel_rfl) (by kernel_rfl) (by kernel_rfl) (by kernel_rfl)) ?_
  intro W base args ds gs before hval0 hW hcnd _
  refine law_post (E := Try.E) (us := [Try.tNet, .int .i64, .int .i64, .int .i64, .str]) (bt := 4) Try.envOK Try.tysOKs Try.laidOut (by kernel_rfl) rfl rfl Try.underlying4 rfl ?_ ?_ hval0 hW
  · intro H ds hd
    match ds, hd with
    | [_, _, _, _, _], _ => rfl
  · exact wireCalls_call

theorem wireCalls_holds : Rows.WireCallsSaid :=
  OpenClaim.holds_of_wide 6 Try.f6 rfl rfl rfl rfl rfl rfl rfl ⟨rfl, rfl, rfl, rfl, rfl⟩ rfl rfl rfl rfl rfl (by kernel_rfl) Try.func6 (by kernel_rfl)
    (of_decide_eq_true (by kernel_rfl)) (by unfold Func.isWrapper; first | (rw [if_pos (by decide +kernel)]; kernel_rfl) | (rw [if_neg (by decide +kernel)]; exact ⟨rfl, rfl⟩))
    (fun os started H enc _ => wireCalls_lifted os started H enc)

end Go.Proofs.Ytfhcedpnofidnaa
