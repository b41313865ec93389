import Derived.Test.YtichcpbhondhhaaGreatDoorBMLib
import Derived.Test.YtichcpbhondhhaaGreatDoorTKeys
import Derived.Test.YtichcpbhondhhaaGreatDoorT4P
import Derived.Test.YtichcpbhondhhaaGreatDoorM5P
namespace Go.Plain
open Go.AM
set_option linter.unusedVariables false
noncomputable def zz92_l3F (self : ((Int × (Str × ((List Str) × Int))) × (GVal × GVal)) → Option (GVal ⊕ GVal)) : ((Int × (Str × ((List Str) × Int))) × (GVal × GVal)) → Option (GVal ⊕ GVal) := fun ((x10, name, x8, x9), c, c1) =>
 if (decide (x10 < x9)) then (if ((0 : Int) ≤ x10) then
 if (x10 < (x8.length : Int)) then
 if ((elt .str x8 x10.toNat) == name) then (if (decide (x10 < (c1.items.length : Int))) then (if ((0 : Int) ≤ x10) then
 if (x10 < (c1.items.length : Int)) then
 some (.inl (elt .val c1.items x10.toNat).re) else none else none) else
 self (((IntKind.wrap .i64 (x10 + (1 : Int))), (name, (x8, x9))), (c.re, c1.re))) else
 self (((IntKind.wrap .i64 (x10 + (1 : Int))), (name, (x8, x9))), (c.re, c1.re)) else none else none) else
 some (.inr c.re)
noncomputable def zz92_l3 : ((Int × (Str × ((List Str) × Int))) × (GVal × GVal)) → Option (GVal ⊕ GVal) := fixO (B := fun _ => GVal ⊕ GVal) zz92_l3F
theorem zz92_l3_eq (q : ((Int × (Str × ((List Str) × Int))) × (GVal × GVal))) : zz92_l3 q = zz92_l3F zz92_l3 q := fixO_eq (B := fun _ => GVal ⊕ GVal) (fun ((x10, name, x8, x9), c, c1) => (.ite (.ite (.ite (.ite (.ite (.const _) (.app _)) (.app _)) (.const _)) (.const _)) (.const _))) q
noncomputable def zz92 : (GVal × Str) → Option (GVal) := fun (v, name) =>
 zz92_l3 (((0 : Int), (name, (v.names, (v.names.length : Int)))), ((GVal.mk (0 : Int) (0 : Int) [] [] []), v.re)) >>= fun r =>
 Sum.elim (fun r1 => some r1.re) (fun r1 => some (GVal.mk (0 : Int) (0 : Int) [] [] [])) r
noncomputable def zz64_l11F (self : ((Int × ((List GVal) × (Str × Int))) × ((Bool × Str) × ((Bool × Str) × (GVal × (List (Str × Int)))))) → Option ((Str × ((Bool × Str) × ((Bool × Str) × (GVal × (List (Str × Int)))))))) : ((Int × ((List GVal) × (Str × Int))) × ((Bool × Str) × ((Bool × Str) × (GVal × (List (Str × Int)))))) → Option ((Str × ((Bool × Str) × ((Bool × Str) × (GVal × (List (Str × Int))))))) := fun ((x35, x33, s, x34), c, c1, c2, c3) =>
 if (decide (x35 < x34)) then (if ((0 : Int) ≤ x35) then
 if (x35 < (x33.length : Int)) then
 zz92 ((elt .val x33 x35.toNat).re, ([100, 105, 103, 101, 115, 116] : Str)) >>= fun g =>
 zz92 ((elt .val x33 x35.toNat).re, ([115, 105, 122, 101] : Str)) >>= fun g1 =>
 if (sumOk (c3.length + [(g.s, g1.n)].length) 24) then
 self (((IntKind.wrap .i64 (x35 + (1 : Int))), (x33, (s, x34))), (c, (c1, (c2.re, (c3 ++ [(g.s, g1.n)]))))) else none else none else none) else
 some (s, (c, (c1, (c2.re, c3))))
noncomputable def zz64_l11 : ((Int × ((List GVal) × (Str × Int))) × ((Bool × Str) × ((Bool × Str) × (GVal × (List (Str × Int)))))) → Option ((Str × ((Bool × Str) × ((Bool × Str) × (GVal × (List (Str × Int))))))) := fixO (B := fun _ => (Str × ((Bool × Str) × ((Bool × Str) × (GVal × (List (Str × Int))))))) zz64_l11F
theorem zz64_l11_eq (q : ((Int × ((List GVal) × (Str × Int))) × ((Bool × Str) × ((Bool × Str) × (GVal × (List (Str × Int))))))) : zz64_l11 q = zz64_l11F zz64_l11 q := fixO_eq (B := fun _ => (Str × ((Bool × Str) × ((Bool × Str) × (GVal × (List (Str × Int))))))) (fun ((x35, x33, s, x34), c, c1, c2, c3) => (.ite (.ite (.ite (.bind (.const _) fun _ => (.bind (.const _) fun _ => (.ite (.app _) (.const _)))) (.const _)) (.const _)) (.const _))) q
noncomputable def zz64_l18F (self : ((Int × ((List GVal) × (Str × Int))) × ((Bool × Str) × ((Bool × Str) × ((List (Str × Int)) × (List Str))))) → Option ((Str × ((Bool × Str) × ((Bool × Str) × ((List (Str × Int)) × (List Str))))))) : ((Int × ((List GVal) × (Str × Int))) × ((Bool × Str) × ((Bool × Str) × ((List (Str × Int)) × (List Str))))) → Option ((Str × ((Bool × Str) × ((Bool × Str) × ((List (Str × Int)) × (List Str)))))) := fun ((x56, x54, s, x55), c, c1, c2, c3) =>
 if (decide (x56 < x55)) then (if ((0 : Int) ≤ x56) then
 if (x56 < (x54.length : Int)) then
 if (sumOk (c3.length + [(elt .val x54 x56.toNat).s].length) 16) then
 self (((IntKind.wrap .i64 (x56 + (1 : Int))), (x54, (s, x55))), (c, (c1, (c2, (c3 ++ [(elt .val x54 x56.toNat).s]))))) else none else none else none) else
 some (s, (c1, (c, (c2, c3))))
noncomputable def zz64_l18 : ((Int × ((List GVal) × (Str × Int))) × ((Bool × Str) × ((Bool × Str) × ((List (Str × Int)) × (List Str))))) → Option ((Str × ((Bool × Str) × ((Bool × Str) × ((List (Str × Int)) × (List Str)))))) := fixO (B := fun _ => (Str × ((Bool × Str) × ((Bool × Str) × ((List (Str × Int)) × (List Str)))))) zz64_l18F
theorem zz64_l18_eq (q : ((Int × ((List GVal) × (Str × Int))) × ((Bool × Str) × ((Bool × Str) × ((List (Str × Int)) × (List Str)))))) : zz64_l18 q = zz64_l18F zz64_l18 q := fixO_eq (B := fun _ => (Str × ((Bool × Str) × ((Bool × Str) × ((List (Str × Int)) × (List Str)))))) (fun ((x56, x54, s, x55), c, c1, c2, c3) => (.ite (.ite (.ite (.ite (.app _) (.const _)) (.const _)) (.const _)) (.const _))) q
noncomputable def zz64 : Str → Option (((Bool × (Str × ((List (Str × Int)) × (List Str)))) × Int)) := fun s =>
 if (decide ((s.length : Int) > (4096 : Int))) then some ((false, ([], ([], []))), (2 : Int)) else
 zz60 s >>= fun p =>
 if (!p.2) then some ((false, ([], ([], []))), (6 : Int)) else
 zz92 (p.1.re, ([107, 105, 110, 100] : Str)) >>= fun g =>
 zz92 (p.1.re, ([99, 111, 110, 102, 105, 103] : Str)) >>= fun g1 =>
 zz92 (p.1.re, ([108, 97, 121, 101, 114, 115] : Str)) >>= fun g2 =>
 zz64_l11 (((0 : Int), (g2.items, (s, (g2.items.length : Int)))), (((g.s == ([105, 110, 100, 101, 120] : Str)), g1.s), ((false, []), (p.1.re, [])))) >>= fun r =>
 zz92 (r.2.2.2.1.re, ([107, 105, 100, 115] : Str)) >>= fun g3 =>
 zz64_l18 (((0 : Int), (g3.items, (r.1, (g3.items.length : Int)))), (r.2.1, (r.2.2.1, (r.2.2.2.2, [])))) >>= fun r1 =>
 zz65 (r1.2.2.1.1, (r1.2.2.1.2, r1.2.2.2)) >>= fun r2 =>
 if (!r2) then some ((false, ([], ([], []))), (8 : Int)) else
 zz80 (r1.2.2.1.1, (r1.2.2.1.2, r1.2.2.2)) >>= fun t =>
 if (t != r1.1) then some ((false, ([], ([], []))), (8 : Int)) else
 some ((r1.2.2.1.1, (r1.2.2.1.2, r1.2.2.2)), (0 : Int))
end Go.Plain
