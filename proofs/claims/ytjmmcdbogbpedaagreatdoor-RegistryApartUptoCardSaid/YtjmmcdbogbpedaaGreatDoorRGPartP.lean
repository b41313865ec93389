import Derived.Test.YtjmmcdbogbpedaaGreatDoorBMLib
import Derived.Test.YtjmmcdbogbpedaaGreatDoorPrn
noncomputable section
namespace Go.Plain
open Go.AM
set_option linter.unusedVariables false
def z27:Fu Int (Bool):=fun c=>
 if(decide (c≥(97:Int))) then(if(decide (c≤(122:Int))) then some true else
 if(decide (c≥(48:Int))) then some (decide (c≤(57:Int))) else
 some false) else
 if(decide (c≥(48:Int))) then some (decide (c≤(57:Int))) else
 some false
def qdj(self:Fu (Int×Y0v) (Bool⊕Y02)):Fu (Int×Y0v) (Bool⊕Y02):=fun(x8,run,s,x7)=>
 if(decide (x8<x7)) then(if((0:Int)≤x8) then
 if(x8<(s.length:Int)) then
 z27 (bt s x8)>>=fun s1=>
 if s1 then(self ((w64 (x8+(1:Int))),((0:Int),(s,x7)))) else
 if((bt s x8)==(45:Int)) then(if(decide (run>(0:Int))) then(if((0:Int)≤(w64 (x8-(1:Int)))) then
 if((w64 (x8-(1:Int)))<(s.length:Int)) then
 if((bt s (w64 (x8-(1:Int)))) !=(45:Int)) then some (.inl false) else
 if(x8==(0:Int)) then some (.inl false) else
 self ((w64 (x8+(1:Int))),((w64 (run+(1:Int))),(s,x7))) else none else none) else
 if(x8==(0:Int)) then some (.inl false) else
 self ((w64 (x8+(1:Int))),((w64 (run+(1:Int))),(s,x7)))) else
 if((bt s x8)==(95:Int)) then(if(run==(1:Int)) then(if((0:Int)≤(w64 (x8-(1:Int)))) then
 if((w64 (x8-(1:Int)))<(s.length:Int)) then
 if((bt s (w64 (x8-(1:Int))))==(95:Int)) then(if(x8==(0:Int)) then some (.inl false) else
 self ((w64 (x8+(1:Int))),((w64 (run+(1:Int))),(s,x7)))) else
 if((bt s x8)==(95:Int)) then(if(decide (run>(0:Int))) then some (.inl false) else
 if(x8==(0:Int)) then some (.inl false) else
 self ((w64 (x8+(1:Int))),((w64 (run+(1:Int))),(s,x7)))) else
 if((bt s x8)==(46:Int)) then(if(decide (run>(0:Int))) then some (.inl false) else
 if(x8==(0:Int)) then some (.inl false) else
 self ((w64 (x8+(1:Int))),((w64 (run+(1:Int))),(s,x7)))) else
 some (.inl false) else none else none) else
 if((bt s x8)==(95:Int)) then(if(decide (run>(0:Int))) then some (.inl false) else
 if(x8==(0:Int)) then some (.inl false) else
 self ((w64 (x8+(1:Int))),((w64 (run+(1:Int))),(s,x7)))) else
 if((bt s x8)==(46:Int)) then(if(decide (run>(0:Int))) then some (.inl false) else
 if(x8==(0:Int)) then some (.inl false) else
 self ((w64 (x8+(1:Int))),((w64 (run+(1:Int))),(s,x7)))) else
 some (.inl false)) else
 if((bt s x8)==(95:Int)) then(if(decide (run>(0:Int))) then some (.inl false) else
 if(x8==(0:Int)) then some (.inl false) else
 self ((w64 (x8+(1:Int))),((w64 (run+(1:Int))),(s,x7)))) else
 if((bt s x8)==(46:Int)) then(if(decide (run>(0:Int))) then some (.inl false) else
 if(x8==(0:Int)) then some (.inl false) else
 self ((w64 (x8+(1:Int))),((w64 (run+(1:Int))),(s,x7)))) else
 some (.inl false) else none else none) else
 some (.inr (run,s))
def qmv:Fu (Int×Y0v) (Bool⊕Y02):=kc qdj
theorem qdk q:qmv q=qdj qmv q:=ko q
def z0l:Fu Str (Bool):=fun s=>
 qmv ((0:Int),((0:Int),(s,(s.length:Int))))>>=fun r=>
 Sum.elim (fun r1=>some r1) (fun r1=>if(r1.2 !=[]) then some (r1.1==(0:Int)) else
 some false) r
end Go.Plain
