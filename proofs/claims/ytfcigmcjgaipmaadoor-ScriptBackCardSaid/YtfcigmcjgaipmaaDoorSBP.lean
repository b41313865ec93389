import Derived.Test.YtfcigmcjgaipmaaDoorBMLib
import Derived.Test.YtfcigmcjgaipmaaDoorPrn
import Derived.Test.YtfcigmcjgaipmaaDoorS7P
namespace Go.Plain
open Go.AM
set_option linter.unusedVariables false
noncomputable def law20_ScriptBack : ((Int × (Int × (List (Int × ((List Int) × (List Str)))))) × Str) → Option (Bool) := fun (p, s) =>
 law20_few (p, (205 : Int)) >>= fun f =>
 if ((0 : Int) ≤ (min (s.length : Int) (12000 : Int))) then
 if ((min (s.length : Int) (12000 : Int)) ≤ (s.length : Int)) then
 script_Print f >>= fun p1 =>
 if (p1.2 == (0 : Int)) then (script_Parse p1.1 >>= fun p2 =>
 if (p2.2.1 != (0 : Int)) then some false else
 if (p2.2.2 != (0 : Int)) then some false else
 ref20_Like (f, p2.1) >>= fun l =>
 if (!l) then some false else
 script_Parse (List.take (min (s.length : Int) (12000 : Int)).toNat s) >>= fun p3 =>
 if (p3.2.1 != (0 : Int)) then (law20_alive () >>= fun a =>
 if a then (ref20_Like (p3.1, ((0 : Int), ((0 : Int), []))) >>= fun l1 =>
 some l1) else
 some false) else
 script_Print p3.1 >>= fun p4 =>
 law20_alive () >>= fun a =>
 if a then (if (p4.2 == (0 : Int)) then (if (p4.1 == (List.take (min (s.length : Int) (12000 : Int)).toNat s)) then (script_Right p3.1 >>= fun r =>
 some r) else
 some false) else
 some false) else
 some false) else
 script_Parse (List.take (min (s.length : Int) (12000 : Int)).toNat s) >>= fun p2 =>
 if (p2.2.1 != (0 : Int)) then (law20_alive () >>= fun a =>
 if a then (ref20_Like (p2.1, ((0 : Int), ((0 : Int), []))) >>= fun l =>
 some l) else
 some false) else
 script_Print p2.1 >>= fun p3 =>
 law20_alive () >>= fun a =>
 if a then (if (p3.2 == (0 : Int)) then (if (p3.1 == (List.take (min (s.length : Int) (12000 : Int)).toNat s)) then (script_Right p2.1 >>= fun r =>
 some r) else
 some false) else
 some false) else
 some false else none else none
end Go.Plain
