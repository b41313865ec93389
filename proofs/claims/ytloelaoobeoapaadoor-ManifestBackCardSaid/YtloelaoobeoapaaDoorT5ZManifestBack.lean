/-
  'ManifestBack' returns true, whatever it is given, and each argument reads afterwards as it read before: the tied card. No condition but that the listed tables of Go's library hold what the program's text lays.
-/
import Derived.Test.YtloelaoobeoapaaDoorTie
import Derived.Test.YtloelaoobeoapaaDoorCards
import Derived.Test.YtloelaoobeoapaaDoorT5Lay
import Derived.Test.YtloelaoobeoapaaDoorMani
import Derived.Test.YtloelaoobeoapaaDoorM5C
import Derived.ProofKit
import Derived.LaidMore
import Derived.Lay
import Derived.SevenTiedAt
namespace Go.Proofs.YtloelaoobeoapaaDoor
open Go.ChangeShapes Go.WideShapes Go.ChangeAt Go.RowKit Go.AM

theorem manifestBack_call (x : DenL [.pair .bool (.pair .str (.pair (.sl (.pair .str (.int .i64))) (.sl .str))), .str]) (hx : inL _ x) : ACall Tryd.E 5 (argVs Tryd.E [25, 9] _ x) [] (fun r h' => r = .ret (.bool true) ∧ h' = []) := by
  obtain ⟨m, s, _⟩ := x; obtain ⟨h1, h2, _⟩ := hx
  exact (Tryd.r_law05_ManifestBack () (m, s) true (Plain.ManifestBack_holds h1 h2)).mono fun r h' h => h

set_option maxRecDepth 100000 in
theorem manifestBack_lifted (os : Os) (started : os.Started) (H : Type) (enc : TypeId × Value → H) :
    ReturnsInHanded {} Tryd.checked os 5 .any (fun w args => (Rows.manifestBackSpec.pre enc Tryd.prog Tryd.f5 Rows.manifestBackRow.domain false w args ∧ laidMetH Tryd.prog Rows.manifestBackRow.laid w) ∧ sizedMet enc Tryd.prog Tryd.f5 (OpenSpec.ofChange Rows.manifestBackSpec) false w args)
      (Rows.manifestBackSpec.post enc Tryd.prog Tryd.f5 false true false false) := by
  refine returnsInHanded_lay (C := Tryd.checked) (X := fun w _ => laidMetH Tryd.prog Rows.manifestBackRow.laid w) (fun _ _ _ hh h => h.of_heap hh) Tryd.own started (by kernel_rfl) Tryd.func5
    (ChangeSpec.witness_shaped (enc := enc) (C := Tryd.checked) (os := os) (X := fun w _ => laidMetH Tryd.prog Rows.manifestBackRow.laid w) false (World.laidAll Tryd.prog os Rows.manifestBackRow.laid) #[.agg #[.bool false, .string ⟨#[]⟩, .slice none 0 0, .slice none 0 0], .string ⟨#[]⟩] 8 (World.laidAll_os _ _ _)
      (World.shaped_of_ZipB (by kernel_rfl) (by kernel_rfl)) (by kernel_rfl) (by kernel_rfl) (by kernel_rfl)
      (by rw [MakeChecks.laidMetH_plain _ _ _ (by kernel_rfl)]; exact laidMet_laidAll _ (by kernel_rfl) (by kernel_rfl))) ?_
  intro W base args ds gs before hval0 hW hL hS
  refine law_post (E := Tryd.E) (us := [.pair .bool (.pair .str (.pair (.sl (.pair .str (.int .i64))) (.sl .str))), .str]) (bt := 4) Tryd.envOK Tryd.tysOKs Tryd.laidOut (by kernel_rfl) rfl rfl Tryd.underlying4 rfl ?_ (Tryd.lay2 hL hS) ?_ hval0 hW
  · intro H ds hd
    match ds, hd with
    | [_, _], _ => rfl
  · exact manifestBack_call

theorem manifestBack_row : Rows.ManifestBackSaid :=
  OpenClaim.holds_of_wide 5 Tryd.f5 rfl rfl rfl rfl rfl rfl rfl ⟨rfl, rfl, rfl, rfl, rfl⟩ rfl rfl rfl rfl rfl (by kernel_rfl) Tryd.func5 (by kernel_rfl)
    (of_decide_eq_true (by kernel_rfl)) (by unfold Func.isWrapper; first | (rw [if_pos (by decide +kernel)]; kernel_rfl) | (rw [if_neg (by decide +kernel)]; exact ⟨rfl, rfl⟩))
    (fun os started H enc _ => manifestBack_lifted os started H enc)

theorem manifestBack_holds : Rows.ManifestBackCardSaid :=
  Claim7.holds_tied_plain_at .later [] [.data, .data, .data, .data, .data, .pinned] true (true, "c8007ce742f913b695d8e973c0fba94898dc57e3df7532cb9fd94bb5a218afce") false manifestBack_row (fun _ h => by cases h) (by kernel_rfl) (fun _ h => by cases h) manifestBack_row_tie rfl ⟨rfl, rfl⟩ (by kernel_rfl) rfl
    (fun f fn hf hfn => by
      obtain rfl : f = 5 := Option.some.inj ((show Tryd.prog.funcNamed Rows.manifestBackRow.func = some 5 by kernel_rfl).symm.trans hf) |>.symm
      obtain rfl : fn = Tryd.f5 := (Option.some.inj (Tryd.func5.symm.trans hfn)).symm
      exact ⟨by kernel_rfl, fun j t ht => by
        rw [Tryd.params5] at ht
        have hm : t ∈ [25, 9] := by simpa using Array.mem_of_getElem? ht
        have hall : ([25, 9].all fun u => !Tryd.prog.wantsStandIn u) = true := by kernel_rfl
        exact (show Tryd.prog.wantsStandIn t = false by simpa using List.all_eq_true.1 hall t hm)⟩)
    (by kernel_rfl)
end Go.Proofs.YtloelaoobeoapaaDoor
