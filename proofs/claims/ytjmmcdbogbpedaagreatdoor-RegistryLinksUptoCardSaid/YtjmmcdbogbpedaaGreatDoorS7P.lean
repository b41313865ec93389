import Derived.Test.YtjmmcdbogbpedaaGreatDoorBMLib
import Derived.Test.YtjmmcdbogbpedaaGreatDoorPrn
noncomputable section
namespace Go.Plain
open Go.AM
set_option linter.unusedVariables false
def qjk(self:Fu Y1s Y0r):Fu Y1s Y0r:=fun((i,now,s,by1),c)=>
 if(decide (i<(s.length:Int))) then(if((0:Int)≤i) then
 if(i<(s.length:Int)) then
 if((bt s i)==by1) then(if(qi (c.length+[now].length) 16) then
 self (((w64 (i+(1:Int))),([],(s,by1))),(c++[now])) else none) else
 if((0:Int)≤i) then
 if(i≤(w64 (i+(1:Int)))) then
 if((w64 (i+(1:Int)))≤(s.length:Int)) then
 if((now.length+(List.drop i.toNat (List.take (w64 (i+(1:Int))).toNat s)).length)≤9223372036854775807) then
 self (((w64 (i+(1:Int))),((now++(List.drop i.toNat (List.take (w64 (i+(1:Int))).toNat s))),(s,by1))),c) else none else none else none else none else none else none) else
 some (now,c)
def qrr:Fu Y1s Y0r:=qt qjk
theorem qvt q:qrr q=qjk qrr q:=qw q
def z1l:Fu Y03 Y01:=fun(s,by1)=>
 qrr (((0:Int),([],(s,by1))),[])>>=fun r=>
 if(qi (r.2.length+[r.1].length) 16) then
 some (r.2++[r.1]) else none
end Go.Plain
