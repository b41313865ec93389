/-
  'TextParses' returns true, whatever texts and kind it is given, and each argument reads afterwards as it read before: the tied card. No condition but that the listed tables of Go's library hold what the program's text lays.
-/
import Derived.Test.YtpllhooaecpogaaDoorTie
import Derived.Test.YtpllhooaecpogaaDoorCards
import Derived.Test.YtpllhooaecpogaaDoorT4Lay
import Derived.Test.YtpllhooaecpogaaDoorFacts
import Derived.Test.YtpllhooaecpogaaDoorT4C
import Derived.ProofKit
import Derived.LaidMore
import Derived.Lay
import Derived.SevenTiedAt
namespace Go.Proofs.YtpllhooaecpogaaDoor
open Go.ChangeShapes Go.WideShapes Go.ChangeAt Go.RowKit Go.AM

theorem textParses_call (x : DenL [.str, .str, .int .i64]) (hx : inL _ x) : ACall Tryd.E 7 (argVs Tryd.E [9, 9, 3] _ x) [] (fun r h' => r = .ret (.bool true) ∧ h' = []) := by
  obtain ⟨s, nm, k, _⟩ := x; obtain ⟨h1, h2, h3, _⟩ := hx
  exact (Tryd.r_law04_TextParses () (s, nm, k) true (Plain.TextParses_holds h1)).mono fun r h' h => h

set_option maxRecDepth 100000 in
theorem textParses_lifted (os : Os) (started : os.Started) (H : Type) (enc : TypeId × Value → H) :
    ReturnsInHanded {} Tryd.checked os 7 .any (fun w args => (Rows.textParsesSpec.pre enc Tryd.prog Tryd.f7 Rows.textParsesRow.domain false w args ∧ laidMetH Tryd.prog Rows.textParsesRow.laid w) ∧ sizedMet enc Tryd.prog Tryd.f7 (OpenSpec.ofChange Rows.textParsesSpec) false w args)
      (Rows.textParsesSpec.post enc Tryd.prog Tryd.f7 false true false false) := by
  refine returnsInHanded_lay (C := Tryd.checked) (X := fun w _ => laidMetH Tryd.prog Rows.textParsesRow.laid w) (fun _ _ _ hh h => h.of_heap hh) Tryd.own started (by kernel_rfl) Tryd.func7
    (ChangeSpec.witness_shaped (enc := enc) (C := Tryd.checked) (os := os) (X := fun w _ => laidMetH Tryd.prog Rows.textParsesRow.laid w) false (World.laidAll Tryd.prog os Rows.textParsesRow.laid) #[.string ⟨#[]⟩, .string ⟨#[]⟩, .int .i64 0] 8 (World.laidAll_os _ _ _)
      (World.shaped_of_ZipB (by kernel_rfl) (by kernel_rfl)) (by kernel_rfl) (by kernel_rfl) (by kernel_rfl)
      (by rw [MakeChecks.laidMetH_plain _ _ _ (by kernel_rfl)]; exact laidMet_laidAll _ (by kernel_rfl) (by kernel_rfl))) ?_
  intro W base args ds gs before hval0 hW hL hS
  refine law_post (E := Tryd.E) (us := [.str, .str, .int .i64]) (bt := 4) Tryd.envOK Tryd.tysOKs Tryd.laidOut (by kernel_rfl) rfl rfl Tryd.underlying4 rfl ?_ (Tryd.lay hL hS) ?_ hval0 hW
  · intro H ds hd
    match ds, hd with
    | [_, _, _], _ => rfl
  · exact textParses_call

theorem textParses_row : Rows.TextParsesSaid :=
  OpenClaim.holds_of_wide 7 Tryd.f7 rfl rfl rfl rfl rfl rfl rfl ⟨rfl, rfl, rfl, rfl, rfl⟩ rfl rfl rfl rfl rfl (by kernel_rfl) Tryd.func7 (by kernel_rfl)
    (of_decide_eq_true (by kernel_rfl)) (by unfold Func.isWrapper; first | (rw [if_pos (by decide +kernel)]; kernel_rfl) | (rw [if_neg (by decide +kernel)]; exact ⟨rfl, rfl⟩))
    (fun os started H enc _ => textParses_lifted os started H enc)

theorem textParses_holds : Rows.TextParsesCardSaid :=
  Claim7.holds_tied_plain_at .later [] [.data, .data, .data, .data, .pinned] true (true, "a7d4313b7a7253a618711edca5536a0a9411951ca68471de62273f3f524d8752") false textParses_row (fun _ h => by cases h) (by kernel_rfl) (fun _ h => by cases h) textParses_row_tie rfl ⟨rfl, rfl⟩ (by kernel_rfl) rfl
    (fun f fn hf hfn => by
      obtain rfl : f = 7 := Option.some.inj ((show Tryd.prog.funcNamed Rows.textParsesRow.func = some 7 by kernel_rfl).symm.trans hf) |>.symm
      obtain rfl : fn = Tryd.f7 := (Option.some.inj (Tryd.func7.symm.trans hfn)).symm
      exact ⟨by kernel_rfl, fun j t ht => by
        rw [Tryd.params7] at ht
        have hm : t ∈ [9, 9, 3] := by simpa using Array.mem_of_getElem? ht
        have hall : ([9, 9, 3].all fun u => !Tryd.prog.wantsStandIn u) = true := by kernel_rfl
        exact (show Tryd.prog.wantsStandIn t = false by simpa using List.all_eq_true.1 hall t hm)⟩)
    (by kernel_rfl)
end Go.Proofs.YtpllhooaecpogaaDoor
