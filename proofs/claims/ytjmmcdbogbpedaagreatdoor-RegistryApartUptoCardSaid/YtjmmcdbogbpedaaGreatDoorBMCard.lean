import Derived.Test.YtjmmcdbogbpedaaGreatDoorBMLaw
import Derived.Test.YtjmmcdbogbpedaaGreatDoorBMRun
import Derived.Handed
import Derived.Shelf.Vars
import Derived.Lib.LaidTab
import Derived.MakeChecks
namespace Go.AM
open Go.Lib
section
variable {H:Type} {enc:TypeId×Value→H}
end
theorem qb7{P:Program}{W:World}{name:String}{k:IntKind}{zs:List Int}{g:Nat}{t e:TypeId}{n:Nat}
  (hg:P.globalNamed name=some g) (hty:(P.globals[g]?).map (·.type)=some t) (ht:P.underlying t=some (.array n e)) (he:P.underlying e=some (.int k)) (hce:P.cellsOf e=1) (hct:P.cellsOf t=n):
  ∀{l:List (String×DataW Unit)} {ps:List MemPlace},(name,tabData k zs)∈l→DataW.LaidVars P W l ps→∃e' fz,W.heap[g]? =some (.cells (zs.map fun z=>Value.int k z).toArray e' fz)
 |[],_,hm,_=>by cases hm
 | (n', d) :: r, ps, hm, h => by
  obtain⟨g',t',cs,fuel,p,q,hg',ht',hvar,hd,hr,_⟩:=h
  rcases List.mem_cons.1 hm with e|hm
  ·injection e with e1 e2
   subst e1;subst e2
   obtain rfl:=Option.some.inj (hg.symm.trans hg')
   obtain rfl:=Option.some.inj (hty.symm.trans ht')
   have hcs:cs=(zs.map fun z=>Value.int k z).toArray:=by
    rw [←cells_of_tab ht he hce hct hd]
   unfold World.var? at hvar
   rw [hg] at hvar
   simp only [Option.bind_some] at hvar
   split at hvar
   ·rename_i c e' fz hh
    injection hvar with hvar
    subst hvar
    exact⟨e',fz,by rw [hh,hcs]⟩
   ·cases hvar
  ·exact qb7 hg hty ht he hce hct hm hr
theorem q6h{w:World}{g:Nat}{v:Value}(h:w.cell? ⟨g,0,none⟩=some v):g<w.heap.size:=by
 rcases Nat.lt_or_ge g w.heap.size with h'|h'
 ·exact h'
 ·simp [World.cell?,Array.getElem?_eq_none h'] at h
end Go.AM
