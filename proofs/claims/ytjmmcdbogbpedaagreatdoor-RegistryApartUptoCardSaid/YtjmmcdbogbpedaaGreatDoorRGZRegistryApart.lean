/-
 'RegistryApart' returns true, whatever it is given, and each argument reads afterwards as it read before: the tied card, for arguments that hold together at most 1048576 values and letters. No other condition but that the listed tables of Go's library hold what the program's text lays.
-/
import Derived.Test.YtjmmcdbogbpedaaGreatDoorTie
import Derived.Test.YtjmmcdbogbpedaaGreatDoorCards
import Derived.Test.YtjmmcdbogbpedaaGreatDoorRGLay
import Derived.Test.YtjmmcdbogbpedaaGreatDoorRg
import Derived.Test.YtjmmcdbogbpedaaGreatDoorRGC
import Derived.ProofKit
import Derived.LaidMore
import Derived.Lay
import Derived.SevenTiedAt
namespace Go.Proofs.YtjmmcdbogbpedaaGreatDoor
open Go.ChangeShapes Go.WideShapes Go.ChangeAt Go.RowKit Go.AM
theorem registryApart_call(x:qvf [.pair (.pair (.sl (.pair .str .str)) (.pair (.int .i64) (.pair (.sl (.pair (.int .i64) .str)) (.int .i64)))) (.sl (.pair .str (.pair (.sl .str) (.pair (.sl .str) (.sl (.pair .str .str)))))),.str,.str,.str,.str])(hx:inL _ x)(hb:upL 1048576 _ x):qh Tryz.E 8 (qxj Tryz.E [28,9,9,9,9] _ x) [] (fun r h'=>r= .ret (.bool true)∧h'=[]):=by
 obtain⟨g,r,o,t,d,_⟩:=x
 exact((Tryz.b_law12_RegistryApart.s _ ()) (g,(r,(o,(t,d)))) true (Plain.qdm (Plain.jbr hb.1) hb.2.1 hb.2.2.2.1)).mono fun r h' h=>h
set_option maxRecDepth 100000 in
theorem registryApart_lifted(os:Os)(started:os.Started)(H:Type)(enc:TypeId×Value→H)(F:Stop.Interp):
  ReturnsInHanded {} Tryz.checked os 8 .any ((Rows.OpenSpec.upto Rows.registryApartSpec).preRow enc Tryz.prog Tryz.f8 Rows.registryApartUptoRow.domain false Rows.registryApartUptoRow.laid) (((Rows.OpenSpec.upto Rows.registryApartSpec).at F).post enc Tryz.prog Tryz.f8 false true false false):=by
 have hpl: ∀W:World,laidMetH Tryz.prog Rows.registryApartUptoRow.laid W→laidMet Tryz.prog Rows.registryApartUptoRow.laid W:=fun W h=>by rwa [MakeChecks.laidMetH_plain _ _ _ (by kernel_rfl)] at h
 refine returnsInHanded_of_row (C:=Tryz.checked) (s:=Rows.OpenSpec.upto Rows.registryApartSpec) Tryz.own started (by kernel_rfl) Tryz.func8
  (qsb (enc := enc) (C := Tryz.checked) (World.laidAll Tryz.prog os Rows.registryApartUptoRow.laid) #[.agg #[.slice none 0 0, .int .i64 0, .slice none 0 0, .int .i64 0, .slice none 0 0], .string ⟨#[]⟩, .string ⟨#[]⟩, .string ⟨#[]⟩, .string ⟨#[]⟩] (World.laidAll_os _ _ _)
   (World.shaped_of_ZipB (by kernel_rfl) (by kernel_rfl)) (by kernel_rfl)
   (qli 8 Rows.uptoSmall rfl (by kernel_rfl) (by kernel_rfl) (by rw [MakeChecks.laidMetH_plain _ _ _ (by kernel_rfl)];exact laidMet_laidAll _ (by kernel_rfl) (by kernel_rfl)))) ?_
 intro W base args ds gs before hval hW _ hcond _ hL hS _
 exact q0d (E:=Tryz.E) (s:=Rows.registryApartSpec) (us:=[.pair (.pair (.sl (.pair .str .str)) (.pair (.int .i64) (.pair (.sl (.pair (.int .i64) .str)) (.int .i64)))) (.sl (.pair .str (.pair (.sl .str) (.pair (.sl .str) (.sl (.pair .str .str)))))),.str,.str,.str,.str]) (bt:=4) (q2d H) (N:=True) Tryz.envOK Tryz.tysOKs Tryz.laidOut (by kernel_rfl) rfl rfl Tryz.underlying4 rfl
  (fun H ds hd=>match ds,hd with|[_,_,_,_,_],_=>rfl) (Tryz.layOf (.tail _ (.tail _ (.head _))) (.tail _ (.tail _ (.tail _ (.tail _ (.head _))))) hL (hpl W) hS) (fun x hx hb=>registryApart_call x hx (hb trivial)) hval hW (fun _=>q6g (hcond _ rfl))
theorem registryApart_row:Rows.RegistryApartUptoSaid:=
 OpenClaim.holds_of_cond 8 Tryz.f8 rfl rfl rfl rfl rfl rfl rfl ⟨rfl,rfl,rfl,rfl,rfl⟩ rfl rfl rfl rfl rfl (by kernel_rfl) Tryz.func8 (by kernel_rfl)
  (of_decide_eq_true (by kernel_rfl)) (by unfold Func.isWrapper;first|(rw [if_pos (by decide +kernel)];kernel_rfl)|(rw [if_neg (by decide +kernel)];exact⟨rfl,rfl⟩))
  (fun os started H enc _ F=>by rw [OpenClaim.pre_eq_preRow];exact registryApart_lifted os started H enc F)
theorem registryApart_holds:Rows.RegistryApartUptoCardSaid:=
 Claim7.holds_tied_plain_at .later [] [.data,.data,.data,.data,.data,.pinned] true (true,"ef4ed170a1e13fe3fc2b8573dddab2b44aca5ca1cd3fbc5b94d9d6e81505ba9c") false registryApart_row (fun _ h=>by cases h) (by kernel_rfl) (fun _ h=>by cases h) registryApartUpto_row_tie rfl ⟨rfl,rfl⟩ (by kernel_rfl) rfl
  (fun f fn hf hfn => by
   obtain rfl:f=8:=Option.some.inj ((show Tryz.prog.funcNamed Rows.registryApartUptoRow.func=some 8 by kernel_rfl).symm.trans hf) |>.symm
   obtain rfl:fn=Tryz.f8:=(Option.some.inj (Tryz.func8.symm.trans hfn)).symm
   exact⟨by kernel_rfl,fun j t ht=>by
    rw [Tryz.params8] at ht
    have hm:t∈[28,9,9,9,9]:=by simpa using Array.mem_of_getElem? ht
    have hall:([28,9,9,9,9].all fun u=> !Tryz.prog.wantsStandIn u)=true:=by kernel_rfl
    exact(show Tryz.prog.wantsStandIn t=false by simpa using List.all_eq_true.1 hall t hm)⟩)
  (by kernel_rfl)
end Go.Proofs.YtjmmcdbogbpedaaGreatDoor
