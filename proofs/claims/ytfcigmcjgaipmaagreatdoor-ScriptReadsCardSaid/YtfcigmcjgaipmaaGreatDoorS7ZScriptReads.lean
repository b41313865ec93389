/-
  'ScriptReads' returns true, whatever it is given, and each argument reads afterwards as it read before: the tied card. No condition but that the listed tables of Go's library hold what the program's text lays.
-/
import Derived.Test.YtfcigmcjgaipmaaGreatDoorTie
import Derived.Test.YtfcigmcjgaipmaaGreatDoorCards
import Derived.Test.YtfcigmcjgaipmaaGreatDoorS7Lay
import Derived.Test.YtfcigmcjgaipmaaGreatDoorScr
import Derived.Test.YtfcigmcjgaipmaaGreatDoorS7C
import Derived.ProofKit
import Derived.LaidMore
import Derived.Lay
import Derived.SevenTiedAt
namespace Go.Proofs.YtfcigmcjgaipmaaGreatDoor
open Go.ChangeShapes Go.WideShapes Go.ChangeAt Go.RowKit Go.AM

theorem scriptReads_call (x : DenL [.str]) (hx : inL _ x) : ACall Tryz.E 4 (argVs Tryz.E [9] _ x) [] (fun r h' => r = .ret (.bool true) ∧ h' = []) := by
  obtain ⟨s, _⟩ := x
  exact (Tryz.r_law20_ScriptReads () s true (Plain.ScriptReads_holds s)).mono fun r h' h => h

set_option maxRecDepth 100000 in
theorem scriptReads_lifted (os : Os) (started : os.Started) (H : Type) (enc : TypeId × Value → H) :
    ReturnsInHanded {} Tryz.checked os 4 .any (fun w args => (Rows.scriptReadsSpec.pre enc Tryz.prog Tryz.f4 Rows.scriptReadsRow.domain false w args ∧ laidMetH Tryz.prog Rows.scriptReadsRow.laid w) ∧ sizedMet enc Tryz.prog Tryz.f4 (OpenSpec.ofChange Rows.scriptReadsSpec) false w args)
      (Rows.scriptReadsSpec.post enc Tryz.prog Tryz.f4 false true false false) := by
  refine returnsInHanded_lay (C := Tryz.checked) (X := fun w _ => laidMetH Tryz.prog Rows.scriptReadsRow.laid w) (fun _ _ _ hh h => h.of_heap hh) Tryz.own started (by kernel_rfl) Tryz.func4
    (ChangeSpec.witness_shaped (enc := enc) (C := Tryz.checked) (os := os) (X := fun w _ => laidMetH Tryz.prog Rows.scriptReadsRow.laid w) false (World.laidAll Tryz.prog os Rows.scriptReadsRow.laid) #[.string ⟨#[]⟩] 8 (World.laidAll_os _ _ _)
      (World.shaped_of_ZipB (by kernel_rfl) (by kernel_rfl)) (by kernel_rfl) (by kernel_rfl) (by kernel_rfl)
      (by rw [MakeChecks.laidMetH_plain _ _ _ (by kernel_rfl)]; exact laidMet_laidAll _ (by kernel_rfl) (by kernel_rfl))) ?_
  intro W base args ds gs before hval0 hW hL hS
  refine law_post (E := Tryz.E) (us := [.str]) (bt := 4) Tryz.envOK Tryz.tysOKs Tryz.laidOut (by kernel_rfl) rfl rfl Tryz.underlying4 rfl ?_ (Tryz.lay hL hS) ?_ hval0 hW
  · intro H ds hd
    match ds, hd with
    | [_], _ => rfl
  · exact scriptReads_call

theorem scriptReads_row : Rows.ScriptReadsSaid :=
  OpenClaim.holds_of_wide 4 Tryz.f4 rfl rfl rfl rfl rfl rfl rfl ⟨rfl, rfl, rfl, rfl, rfl⟩ rfl rfl rfl rfl rfl (by kernel_rfl) Tryz.func4 (by kernel_rfl)
    (of_decide_eq_true (by kernel_rfl)) (by unfold Func.isWrapper; first | (rw [if_pos (by decide +kernel)]; kernel_rfl) | (rw [if_neg (by decide +kernel)]; exact ⟨rfl, rfl⟩))
    (fun os started H enc _ => scriptReads_lifted os started H enc)

theorem scriptReads_holds : Rows.ScriptReadsCardSaid :=
  Claim7.holds_tied_plain_at .later [] [.data, .data, .data, .data, .pinned] true (true, "b66e61027921d82359b28599a670f9b33da5f6cd78f3f01ba010730809de4476") false scriptReads_row (fun _ h => by cases h) (by kernel_rfl) (fun _ h => by cases h) scriptReads_row_tie rfl ⟨rfl, rfl⟩ (by kernel_rfl) rfl
    (fun f fn hf hfn => by
      obtain rfl : f = 4 := Option.some.inj ((show Tryz.prog.funcNamed Rows.scriptReadsRow.func = some 4 by kernel_rfl).symm.trans hf) |>.symm
      obtain rfl : fn = Tryz.f4 := (Option.some.inj (Tryz.func4.symm.trans hfn)).symm
      exact ⟨by kernel_rfl, fun j t ht => by
        rw [Tryz.params4] at ht
        have hm : t ∈ [9] := by simpa using Array.mem_of_getElem? ht
        have hall : ([9].all fun u => !Tryz.prog.wantsStandIn u) = true := by kernel_rfl
        exact (show Tryz.prog.wantsStandIn t = false by simpa using List.all_eq_true.1 hall t hm)⟩)
    (by kernel_rfl)
end Go.Proofs.YtfcigmcjgaipmaaGreatDoor
