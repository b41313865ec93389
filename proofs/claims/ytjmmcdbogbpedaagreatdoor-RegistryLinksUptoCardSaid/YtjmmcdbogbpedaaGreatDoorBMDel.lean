import Derived.Test.YtjmmcdbogbpedaaGreatDoorBMLaw
import Derived.Shelf.RegionOpenPlain
import Derived.WalkKit
import Derived.Deep.LoopGhost
import Derived.Deep.RegionLaw
import Derived.Lib.Walk
import Derived.Lib.SliceRun
namespace Go.AM
set_option linter.unusedSectionVars false
variable [Lay]
open Go.RowKit Go.Lib Go.Shelf
theorem yu(g:Nat)(e:TypeId)(fz:Nat×Nat): ∀(vs:List Value) (o:Nat) (w:World) (cs:Array Value),w.heap[g]? =some (.cells cs e fz)→w.setCells g o vs=w.setRow g (jd cs.toList o vs).toArray
 |[],o,w,cs,h=>by
  show w=w.setRow g cs.toList.toArray
  rw [Array.toArray_toList,setRow_self w g cs e fz h]
 |v::r,o,w,cs,h=>by
  show(w.setCell ⟨g,o,none⟩ v).setCells g (o+1) r=_
  rw [setCell_eq_setRow w g o cs e fz v h,yu g e fz r (o+1) _ _ (setRow_heap w g _ _ e fz h),setRow_setRow]
  simp [jd]
end Go.AM
