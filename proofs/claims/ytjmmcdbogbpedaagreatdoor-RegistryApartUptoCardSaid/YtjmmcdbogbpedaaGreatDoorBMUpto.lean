import Derived.Test.YtjmmcdbogbpedaaGreatDoorBMCard
import Derived.Deep.DeepHandedRow
namespace Go.AM
open Go.Lib
section
variable {H:Type} {enc:TypeId×Value→H}
theorem qsb{C:Checked}{os:Os}{f:FuncId}{fn:Func}{s:OpenSpec}{conds:List PathCond}{apart:Bool}{laid:List (String×DataW Unit)}(w0:World)(args:Array Value)(hos:w0.os=os)
  (hsh:(w0.forCall (fun _ _=>0) ⟨#[],args,[]⟩).Shaped C.prog)
  (hok:Input.okWideB C.prog (w0.forCall (fun _ _=>0) ⟨#[],args,[]⟩) f ⟨#[],args,[]⟩=true)
  (hrow:s.preRow enc C.prog fn conds apart laid (w0.forCall (fun _ _=>0) ⟨#[],args,[]⟩).memory args):
  ∃(w:World) (tape:Tape) (i:Input),w.os=os∧(w.forCall tape i).Shaped C.prog∧i.vars=[]∧Input.okWide C.prog (w.forCall tape i) .any w.heap.size f i∧
   s.preRow enc C.prog fn conds apart laid (w.forCall tape i).memory i.args∧({}:Assume).holds C.prog (lone (Frame.enter C.prog f i.args .normal) [] (w.forCall tape i)):=
 ⟨w0, fun _ _ => 0, ⟨#[], args, []⟩, hos, hsh, (Input.okWide_of_okWideB (base := 0) hok).1, (Input.okWide_of_okWideB hok).2, hrow, by
  simp only [Assume.holds]
  exact⟨by simp,by simp,fun _=>Modest.zero,by simp,by simp⟩⟩
theorem qli{P:Program}{f:Func}{s:OpenSpec}{conds:List PathCond}{apart:Bool}{laid:List (String×DataW Unit)}{w:World}{args:Array Value}(fuel:Nat)(k:(H:Type)→List (DataW H)→Bool)(hk:s.cond=some k)
  (ht:(match DataW.whole enc P w f.params.toList s.vars apart args.toList fuel with|some x=>conds.all (PathCond.test P ⟨f.params.toList,x.1,s.bare.plain.varTypes P,x.2.1⟩)&&k H (x.1++x.2.1)|none=>false)=true)
  (hsz:s.bare.sizedB enc P f apart w args fuel=true) (hl:laidMetH P laid w):s.preRow enc P f conds apart laid w args:=by
 split at ht
 ·rename_i x hx
  rw [Bool.and_eq_true] at ht
  exact OpenSpec.preRow_of_cond fuel hx ht.1 (fun k' h'=>by rw [hk] at h';cases h';exact ht.2) hsz hl
 ·cases ht
end
end Go.AM
