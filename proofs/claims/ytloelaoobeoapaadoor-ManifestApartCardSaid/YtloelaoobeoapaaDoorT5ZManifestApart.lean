/-
  'ManifestApart' returns true, whatever it is given, and each argument reads afterwards as it read before: the tied card. No condition but that the listed tables of Go's library hold what the program's text lays.
-/
import Derived.Test.YtloelaoobeoapaaDoorTie
import Derived.Test.YtloelaoobeoapaaDoorCards
import Derived.Test.YtloelaoobeoapaaDoorT5Lay
import Derived.Test.YtloelaoobeoapaaDoorMani
import Derived.Test.YtloelaoobeoapaaDoorM5C
import Derived.ProofKit
import Derived.LaidMore
import Derived.Lay
import Derived.SevenTiedAt
namespace Go.Proofs.YtloelaoobeoapaaDoor
open Go.ChangeShapes Go.WideShapes Go.ChangeAt Go.RowKit Go.AM

theorem manifestApart_call (x : DenL [.pair .bool (.pair .str (.pair (.sl (.pair .str (.int .i64))) (.sl .str))), .pair .bool (.pair .str (.pair (.sl (.pair .str (.int .i64))) (.sl .str)))]) (hx : inL _ x) : ACall Tryd.E 6 (argVs Tryd.E [25, 25] _ x) [] (fun r h' => r = .ret (.bool true) ∧ h' = []) := by
  obtain ⟨a, b, _⟩ := x; obtain ⟨h1, h2, _⟩ := hx
  exact (Tryd.r_law05_ManifestApart () (a, b) true (Plain.ManifestApart_holds h1 h2)).mono fun r h' h => h

set_option maxRecDepth 100000 in
theorem manifestApart_lifted (os : Os) (started : os.Started) (H : Type) (enc : TypeId × Value → H) :
    ReturnsInHanded {} Tryd.checked os 6 .any (fun w args => (Rows.manifestApartSpec.pre enc Tryd.prog Tryd.f6 Rows.manifestApartRow.domain false w args ∧ laidMetH Tryd.prog Rows.manifestApartRow.laid w) ∧ sizedMet enc Tryd.prog Tryd.f6 (OpenSpec.ofChange Rows.manifestApartSpec) false w args)
      (Rows.manifestApartSpec.post enc Tryd.prog Tryd.f6 false true false false) := by
  refine returnsInHanded_lay (C := Tryd.checked) (X := fun w _ => laidMetH Tryd.prog Rows.manifestApartRow.laid w) (fun _ _ _ hh h => h.of_heap hh) Tryd.own started (by kernel_rfl) Tryd.func6
    (ChangeSpec.witness_shaped (enc := enc) (C := Tryd.checked) (os := os) (X := fun w _ => laidMetH Tryd.prog Rows.manifestApartRow.laid w) false (World.laidAll Tryd.prog os Rows.manifestApartRow.laid) #[.agg #[.bool false, .string ⟨#[]⟩, .slice none 0 0, .slice none 0 0], .agg #[.bool false, .string ⟨#[]⟩, .slice none 0 0, .slice none 0 0]] 8 (World.laidAll_os _ _ _)
      (World.shaped_of_ZipB (by kernel_rfl) (by kernel_rfl)) (by kernel_rfl) (by kernel_rfl) (by kernel_rfl)
      (by rw [MakeChecks.laidMetH_plain _ _ _ (by kernel_rfl)]; exact laidMet_laidAll _ (by kernel_rfl) (by kernel_rfl))) ?_
  intro W base args ds gs before hval0 hW hL hS
  refine law_post (E := Tryd.E) (us := [.pair .bool (.pair .str (.pair (.sl (.pair .str (.int .i64))) (.sl .str))), .pair .bool (.pair .str (.pair (.sl (.pair .str (.int .i64))) (.sl .str)))]) (bt := 4) Tryd.envOK Tryd.tysOKs Tryd.laidOut (by kernel_rfl) rfl rfl Tryd.underlying4 rfl ?_ (Tryd.lay2 hL hS) ?_ hval0 hW
  · intro H ds hd
    match ds, hd with
    | [_, _], _ => rfl
  · exact manifestApart_call

theorem manifestApart_row : Rows.ManifestApartSaid :=
  OpenClaim.holds_of_wide 6 Tryd.f6 rfl rfl rfl rfl rfl rfl rfl ⟨rfl, rfl, rfl, rfl, rfl⟩ rfl rfl rfl rfl rfl (by kernel_rfl) Tryd.func6 (by kernel_rfl)
    (of_decide_eq_true (by kernel_rfl)) (by unfold Func.isWrapper; first | (rw [if_pos (by decide +kernel)]; kernel_rfl) | (rw [if_neg (by decide +kernel)]; exact ⟨rfl, rfl⟩))
    (fun os started H enc _ => manifestApart_lifted os started H enc)

theorem manifestApart_holds : Rows.ManifestApartCardSaid :=
  Claim7.holds_tied_plain_at .later [] [.data, .data, .data, .data, .data, .pinned] true (true, "c8007ce742f913b695d8e973c0fba94898dc57e3df7532cb9fd94bb5a218afce") false manifestApart_row (fun _ h => by cases h) (by kernel_rfl) (fun _ h => by cases h) manifestApart_row_tie rfl ⟨rfl, rfl⟩ (by kernel_rfl) rfl
    (fun f fn hf hfn => by
      obtain rfl : f = 6 := Option.some.inj ((show Tryd.prog.funcNamed Rows.manifestApartRow.func = some 6 by kernel_rfl).symm.trans hf) |>.symm
      obtain rfl : fn = Tryd.f6 := (Option.some.inj (Tryd.func6.symm.trans hfn)).symm
      exact ⟨by kernel_rfl, fun j t ht => by
        rw [Tryd.params6] at ht
        have hm : t ∈ [25, 25] := by simpa using Array.mem_of_getElem? ht
        have hall : ([25, 25].all fun u => !Tryd.prog.wantsStandIn u) = true := by kernel_rfl
        exact (show Tryd.prog.wantsStandIn t = false by simpa using List.all_eq_true.1 hall t hm)⟩)
    (by kernel_rfl)
end Go.Proofs.YtloelaoobeoapaaDoor
