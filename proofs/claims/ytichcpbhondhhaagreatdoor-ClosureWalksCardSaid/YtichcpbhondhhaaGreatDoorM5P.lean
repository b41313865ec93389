import Derived.Test.YtichcpbhondhhaaGreatDoorBMLib
import Derived.Test.YtichcpbhondhhaaGreatDoorTKeys
import Derived.Test.YtichcpbhondhhaaGreatDoorT4P
namespace Go.Plain
open Go.AM
set_option linter.unusedVariables false
noncomputable def i_stringslite_HasPrefix : (Str × Str) → Option (Bool) := fun (s, prefix1) =>
 if (decide ((s.length : Int) ≥ (prefix1.length : Int))) then (if ((prefix1.length : Int) ≤ (s.length : Int)) then
 some ((List.take (prefix1.length : Int).toNat s) == prefix1) else none) else
 some false
noncomputable def i_stringslite_CutPrefix : (Str × Str) → Option ((Str × Bool)) := fun (s, prefix1) =>
 i_stringslite_HasPrefix (s, prefix1) >>= fun h =>
 if (!h) then some (s, false) else
 if ((prefix1.length : Int) ≤ (s.length : Int)) then
 if ((s.length : Int) ≤ (s.length : Int)) then
 some ((List.drop (prefix1.length : Int).toNat (List.take (s.length : Int).toNat s)), true) else none else none
noncomputable def strings_CutPrefix : (Str × Str) → Option ((Str × Bool)) := fun (s, prefix1) =>
 i_stringslite_CutPrefix (s, prefix1) >>= fun c =>
 some c
noncomputable def zz54_l7F (self : ((Int × (Str × Int)) × (List Int)) → Option ((Str × Int) ⊕ (List Int))) : ((Int × (Str × Int)) × (List Int)) → Option ((Str × Int) ⊕ (List Int)) := fun ((x18, s, x17), c) =>
 if (decide (x18 < x17)) then (if ((0 : Int) ≤ (IntKind.wrap .i64 ((2 : Int) * x18))) then
 if ((IntKind.wrap .i64 ((2 : Int) * x18)) < (s.length : Int)) then
 lib_IndexByte (([48, 49, 50, 51, 52, 53, 54, 55, 56, 57, 97, 98, 99, 100, 101, 102] : Str), (bt s (IntKind.wrap .i64 ((2 : Int) * x18)))) >>= fun i =>
 if ((0 : Int) ≤ (IntKind.wrap .i64 ((IntKind.wrap .i64 ((2 : Int) * x18)) + (1 : Int)))) then
 if ((IntKind.wrap .i64 ((IntKind.wrap .i64 ((2 : Int) * x18)) + (1 : Int))) < (s.length : Int)) then
 lib_IndexByte (([48, 49, 50, 51, 52, 53, 54, 55, 56, 57, 97, 98, 99, 100, 101, 102] : Str), (bt s (IntKind.wrap .i64 ((IntKind.wrap .i64 ((2 : Int) * x18)) + (1 : Int))))) >>= fun i1 =>
 if (decide (i < (0 : Int))) then some (.inl ([], (4 : Int))) else
 if (decide (i1 < (0 : Int))) then some (.inl ([], (4 : Int))) else
 if ((0 : Int) ≤ x18) then
 if (x18 < (c.length : Int)) then
 if (x18.toNat < c.length) then
 self (((IntKind.wrap .i64 (x18 + (1 : Int))), (s, x17)), (List.set c x18.toNat (IntKind.wrap .u8 (IntKind.wrap .i64 ((IntKind.wrap .i64 (i * (16 : Int))) + i1))))) else none else none else none else none else none else none else none) else
 some (.inr c)
noncomputable def zz54_l7 : ((Int × (Str × Int)) × (List Int)) → Option ((Str × Int) ⊕ (List Int)) := fixO (B := fun _ => (Str × Int) ⊕ (List Int)) zz54_l7F
theorem zz54_l7_eq (q : ((Int × (Str × Int)) × (List Int))) : zz54_l7 q = zz54_l7F zz54_l7 q := fixO_eq (B := fun _ => (Str × Int) ⊕ (List Int)) (fun ((x18, s, x17), c) => (.ite (.ite (.ite (.bind (.const _) fun _ => (.ite (.ite (.bind (.const _) fun _ => (.ite (.const _) (.ite (.const _) (.ite (.ite (.ite (.app _) (.const _)) (.const _)) (.const _))))) (.const _)) (.const _))) (.const _)) (.const _)) (.const _))) q
noncomputable def zz54 : Str → Option ((Str × Int)) := fun s =>
 if ((Int.tmod (s.length : Int) (2 : Int)) != (0 : Int)) then some ([], (4 : Int)) else
 if ((IntKind.wrap .i64 (Int.tdiv (s.length : Int) (2 : Int))) = (IntKind.wrap .i64 (Int.tdiv (s.length : Int) (2 : Int)))) then
 if ((0 : Int) ≤ (IntKind.wrap .i64 (Int.tdiv (s.length : Int) (2 : Int)))) then
 if (sumOk (IntKind.wrap .i64 (Int.tdiv (s.length : Int) (2 : Int))).toNat 1) then
 zz54_l7 (((0 : Int), (s, ((List.replicate (IntKind.wrap .i64 (Int.tdiv (s.length : Int) (2 : Int))).toNat (0 : Int)).length : Int))), (List.replicate (IntKind.wrap .i64 (Int.tdiv (s.length : Int) (2 : Int))).toNat (0 : Int))) >>= fun r =>
 Sum.elim (fun r1 => some r1) (fun r1 => some ((bytesStr r1), (0 : Int))) r else none else none else none
noncomputable def zz45 : Str → Option ((Str × Int)) := fun s =>
 strings_CutPrefix (s, ([115, 104, 97, 50, 53, 54, 58] : Str)) >>= fun c =>
 zz54 c.1 >>= fun b =>
 if (!c.2) then some ([], (6 : Int)) else
 if (b.2 != (0 : Int)) then some ([], (6 : Int)) else
 if ((b.1.length : Int) != (32 : Int)) then some ([], (6 : Int)) else
 some (b.1, (0 : Int))
noncomputable def zz53 : Str → Option (Bool) := fun s =>
 zz45 s >>= fun p =>
 some (p.2 == (0 : Int))
noncomputable def zz14 : ((List Str) × Str) → Option (Bool) := fun (s, v) =>
 zz22 (s, v) >>= fun s1 =>
 some (decide (s1 ≥ (0 : Int)))
noncomputable def zz33_l5F (self : ((Int × ((List Str) × Int)) × (Bool × (Str × ((List (Str × Int)) × (List Str))))) → Option (Bool ⊕ (Bool × (Str × ((List (Str × Int)) × (List Str)))))) : ((Int × ((List Str) × Int)) × (Bool × (Str × ((List (Str × Int)) × (List Str))))) → Option (Bool ⊕ (Bool × (Str × ((List (Str × Int)) × (List Str))))) := fun ((x11, x9, x10), c) =>
 if (decide (x11 < x10)) then (if ((0 : Int) ≤ x11) then
 if (x11 < (x9.length : Int)) then
 zz53 (elt .str x9 x11.toNat) >>= fun i =>
 if (!i) then some (.inl false) else
 if ((0 : Int) ≤ x11) then
 if (x11 ≤ (c.2.2.2.length : Int)) then
 zz14 ((List.take x11.toNat c.2.2.2), (elt .str x9 x11.toNat)) >>= fun s =>
 if s then some (.inl false) else
 self (((IntKind.wrap .i64 (x11 + (1 : Int))), (x9, x10)), c) else none else none else none else none) else
 some (.inr c)
noncomputable def zz33_l5 : ((Int × ((List Str) × Int)) × (Bool × (Str × ((List (Str × Int)) × (List Str))))) → Option (Bool ⊕ (Bool × (Str × ((List (Str × Int)) × (List Str))))) := fixO (B := fun _ => Bool ⊕ (Bool × (Str × ((List (Str × Int)) × (List Str))))) zz33_l5F
theorem zz33_l5_eq (q : ((Int × ((List Str) × Int)) × (Bool × (Str × ((List (Str × Int)) × (List Str)))))) : zz33_l5 q = zz33_l5F zz33_l5 q := fixO_eq (B := fun _ => Bool ⊕ (Bool × (Str × ((List (Str × Int)) × (List Str))))) (fun ((x11, x9, x10), c) => (.ite (.ite (.ite (.bind (.const _) fun _ => (.ite (.const _) (.ite (.ite (.bind (.const _) fun _ => (.ite (.const _) (.app _))) (.const _)) (.const _)))) (.const _)) (.const _)) (.const _))) q
noncomputable def zz28 : (Str × Int) → Option (Bool) := fun l =>
 zz53 l.1 >>= fun i =>
 if (!i) then some true else
 if (decide (l.2 < (0 : Int))) then some true else
 some (decide (l.2 > (4096 : Int)))
noncomputable def zz3_l3F (self : (Int × ((List (Str × Int)) × Int)) → Option (Int ⊕ Unit)) : (Int × ((List (Str × Int)) × Int)) → Option (Int ⊕ Unit) := fun (x8, s, x7) =>
 if (decide (x8 < x7)) then (if ((0 : Int) ≤ x8) then
 if (x8 < (s.length : Int)) then
 zz28 (elt (.pair .str (.int .i64)) s x8.toNat) >>= fun r =>
 if r then some (.inl x8) else
 self ((IntKind.wrap .i64 (x8 + (1 : Int))), (s, x7)) else none else none) else
 some (.inr ())
noncomputable def zz3_l3 : (Int × ((List (Str × Int)) × Int)) → Option (Int ⊕ Unit) := fixO (B := fun _ => Int ⊕ Unit) zz3_l3F
theorem zz3_l3_eq (q : (Int × ((List (Str × Int)) × Int))) : zz3_l3 q = zz3_l3F zz3_l3 q := fixO_eq (B := fun _ => Int ⊕ Unit) (fun (x8, s, x7) => (.ite (.ite (.ite (.bind (.const _) fun _ => (.ite (.const _) (.app _))) (.const _)) (.const _)) (.const _))) q
noncomputable def zz3 : (List (Str × Int)) → Option (Int) := fun s =>
 zz3_l3 ((0 : Int), (s, (s.length : Int))) >>= fun r =>
 Sum.elim (fun r1 => some r1) (fun r1 => some (-1 : Int)) r
noncomputable def zz0 : (List (Str × Int)) → Option (Bool) := fun s =>
 zz3 s >>= fun y =>
 some (decide (y ≥ (0 : Int)))
noncomputable def zz33 : (Bool × (Str × ((List (Str × Int)) × (List Str)))) → Option (Bool) := fun m =>
 if m.1 then (zz33_l5 (((0 : Int), (m.2.2.2, (m.2.2.2.length : Int))), m) >>= fun r =>
 Sum.elim (fun r1 => some r1) (fun r1 => if (decide ((r1.2.2.2.length : Int) ≥ (1 : Int))) then (if (decide ((r1.2.2.2.length : Int) ≤ (8 : Int))) then (if (r1.2.1 == []) then some ((r1.2.2.1.length : Int) == (0 : Int)) else
 some false) else
 some false) else
 some false) r) else
 zz53 m.2.1 >>= fun i =>
 if i then (if ((m.2.2.2.length : Int) == (0 : Int)) then (if (decide ((m.2.2.1.length : Int) ≤ (8 : Int))) then (zz0 m.2.2.1 >>= fun y =>
 some (!y)) else
 some false) else
 some false) else
 some false
noncomputable def zz43 : Str → Option (GVal) := fun s =>
 some (GVal.mk (2 : Int) (0 : Int) s [] [])
noncomputable def zz12_l4F (self : ((Int × ((List Str) × Int)) × ((Int × (Int × (Str × (List Str)))) × (GVal × (List GVal)))) → Option ((GVal × ((Int × (Int × (Str × (List Str)))) × (List GVal))))) : ((Int × ((List Str) × Int)) × ((Int × (Int × (Str × (List Str)))) × (GVal × (List GVal)))) → Option ((GVal × ((Int × (Int × (Str × (List Str)))) × (List GVal)))) := fun ((x11, x9, x10), c, c1, c2) =>
 if (decide (x11 < x10)) then (if ((0 : Int) ≤ x11) then
 if (x11 < (x9.length : Int)) then
 zz43 (elt .str x9 x11.toNat) >>= fun w =>
 if (sumOk (c2.length + [w.re].length) 80) then
 self (((IntKind.wrap .i64 (x11 + (1 : Int))), (x9, x10)), (c, (c1.re, (c2 ++ [w.re])))) else none else none else none) else
 some (c1.re, (c, c2))
noncomputable def zz12_l4 : ((Int × ((List Str) × Int)) × ((Int × (Int × (Str × (List Str)))) × (GVal × (List GVal)))) → Option ((GVal × ((Int × (Int × (Str × (List Str)))) × (List GVal)))) := fixO (B := fun _ => (GVal × ((Int × (Int × (Str × (List Str)))) × (List GVal)))) zz12_l4F
theorem zz12_l4_eq (q : ((Int × ((List Str) × Int)) × ((Int × (Int × (Str × (List Str)))) × (GVal × (List GVal))))) : zz12_l4 q = zz12_l4F zz12_l4 q := fixO_eq (B := fun _ => (GVal × ((Int × (Int × (Str × (List Str)))) × (List GVal)))) (fun ((x11, x9, x10), c, c1, c2) => (.ite (.ite (.ite (.bind (.const _) fun _ => (.ite (.app _) (.const _))) (.const _)) (.const _)) (.const _))) q
noncomputable def zz12 : (List Str) → Option (GVal) := fun l =>
 zz12_l4 (((0 : Int), (l, (l.length : Int))), (((3 : Int), ((0 : Int), ([], []))), ((GVal.mk (0 : Int) (0 : Int) [] [] []), []))) >>= fun r =>
 some (GVal.mk r.2.1.1 r.2.1.2.1 r.2.1.2.2.1 r.2.2 r.2.1.2.2.2)
noncomputable def zz34 : (Str × Int) → Option (GVal) := fun l =>
 zz43 l.1 >>= fun w =>
 some (GVal.mk (4 : Int) (0 : Int) [] [w.re, (GVal.mk (1 : Int) l.2 [] [] [])] [([100, 105, 103, 101, 115, 116] : Str), ([115, 105, 122, 101] : Str)])
noncomputable def zz7_l4F (self : ((Int × ((List (Str × Int)) × Int)) × ((Int × (Int × (Str × (List Str)))) × (GVal × (List GVal)))) → Option ((GVal × ((Int × (Int × (Str × (List Str)))) × (List GVal))))) : ((Int × ((List (Str × Int)) × Int)) × ((Int × (Int × (Str × (List Str)))) × (GVal × (List GVal)))) → Option ((GVal × ((Int × (Int × (Str × (List Str)))) × (List GVal)))) := fun ((x11, x9, x10), c, c1, c2) =>
 if (decide (x11 < x10)) then (if ((0 : Int) ≤ x11) then
 if (x11 < (x9.length : Int)) then
 zz34 (elt (.pair .str (.int .i64)) x9 x11.toNat) >>= fun l =>
 if (sumOk (c2.length + [l.re].length) 80) then
 self (((IntKind.wrap .i64 (x11 + (1 : Int))), (x9, x10)), (c, (c1.re, (c2 ++ [l.re])))) else none else none else none) else
 some (c1.re, (c, c2))
noncomputable def zz7_l4 : ((Int × ((List (Str × Int)) × Int)) × ((Int × (Int × (Str × (List Str)))) × (GVal × (List GVal)))) → Option ((GVal × ((Int × (Int × (Str × (List Str)))) × (List GVal)))) := fixO (B := fun _ => (GVal × ((Int × (Int × (Str × (List Str)))) × (List GVal)))) zz7_l4F
theorem zz7_l4_eq (q : ((Int × ((List (Str × Int)) × Int)) × ((Int × (Int × (Str × (List Str)))) × (GVal × (List GVal))))) : zz7_l4 q = zz7_l4F zz7_l4 q := fixO_eq (B := fun _ => (GVal × ((Int × (Int × (Str × (List Str)))) × (List GVal)))) (fun ((x11, x9, x10), c, c1, c2) => (.ite (.ite (.ite (.bind (.const _) fun _ => (.ite (.app _) (.const _))) (.const _)) (.const _)) (.const _))) q
noncomputable def zz7 : (List (Str × Int)) → Option (GVal) := fun l =>
 zz7_l4 (((0 : Int), (l, (l.length : Int))), (((3 : Int), ((0 : Int), ([], []))), ((GVal.mk (0 : Int) (0 : Int) [] [] []), []))) >>= fun r =>
 some (GVal.mk r.2.1.1 r.2.1.2.1 r.2.1.2.2.1 r.2.2 r.2.1.2.2.2)
noncomputable def zz35 : (Bool × (Str × ((List (Str × Int)) × (List Str)))) → Option (GVal) := fun m =>
 if m.1 then (zz12 m.2.2.2 >>= fun s =>
 zz43 ([105, 110, 100, 101, 120] : Str) >>= fun w =>
 some (GVal.mk (4 : Int) (0 : Int) [] [s.re, w.re] [([107, 105, 100, 115] : Str), ([107, 105, 110, 100] : Str)])) else
 zz43 m.2.1 >>= fun w =>
 zz43 ([105, 109, 97, 103, 101] : Str) >>= fun w1 =>
 zz7 m.2.2.1 >>= fun m1 =>
 some (GVal.mk (4 : Int) (0 : Int) [] [w.re, w1.re, m1.re] [([99, 111, 110, 102, 105, 103] : Str), ([107, 105, 110, 100] : Str), ([108, 97, 121, 101, 114, 115] : Str)])
noncomputable def zz32 : (Bool × (Str × ((List (Str × Int)) × (List Str)))) → Option ((Str × Int)) := fun m =>
 zz33 m >>= fun r =>
 if (!r) then some ([], (1 : Int)) else
 zz35 m >>= fun v =>
 zz83 v.re >>= fun p =>
 some p
noncomputable def zz73 : Int → Option (Int) := fun c =>
 if (decide (c ≥ (48 : Int))) then (if (decide (c ≤ (57 : Int))) then some (IntKind.wrap .i64 (IntKind.wrap .u8 (c - (48 : Int)))) else
 if (decide (c ≥ (97 : Int))) then (if (decide (c ≤ (102 : Int))) then some (IntKind.wrap .i64 ((IntKind.wrap .i64 (IntKind.wrap .u8 (c - (97 : Int)))) + (10 : Int))) else
 some (16 : Int)) else
 some (16 : Int)) else
 if (decide (c ≥ (97 : Int))) then (if (decide (c ≤ (102 : Int))) then some (IntKind.wrap .i64 ((IntKind.wrap .i64 (IntKind.wrap .u8 (c - (97 : Int)))) + (10 : Int))) else
 some (16 : Int)) else
 some (16 : Int)
noncomputable def zz55_l4F (self : ((Int × Str) × (List Int)) → Option ((Str × Bool) ⊕ (Str × (List Int)))) : ((Int × Str) × (List Int)) → Option ((Str × Bool) ⊕ (Str × (List Int))) := fun ((i, s), c) =>
 if (decide ((IntKind.wrap .i64 (i + (1 : Int))) < (s.length : Int))) then (if ((0 : Int) ≤ i) then
 if (i < (s.length : Int)) then
 zz73 (bt s i) >>= fun h =>
 if (decide (h > (15 : Int))) then some (.inl ([], false)) else
 if ((0 : Int) ≤ (IntKind.wrap .i64 (i + (1 : Int)))) then
 if ((IntKind.wrap .i64 (i + (1 : Int))) < (s.length : Int)) then
 zz73 (bt s (IntKind.wrap .i64 (i + (1 : Int)))) >>= fun h1 =>
 if (decide (h1 > (15 : Int))) then some (.inl ([], false)) else
 if ((0 : Int) ≤ i) then
 if (i < (s.length : Int)) then
 zz73 (bt s i) >>= fun h2 =>
 if ((0 : Int) ≤ (IntKind.wrap .i64 (i + (1 : Int)))) then
 if ((IntKind.wrap .i64 (i + (1 : Int))) < (s.length : Int)) then
 zz73 (bt s (IntKind.wrap .i64 (i + (1 : Int)))) >>= fun h3 =>
 if (sumOk (c.length + [(IntKind.wrap .u8 (IntKind.wrap .i64 ((IntKind.wrap .i64 ((16 : Int) * h2)) + h3)))].length) 1) then
 self (((IntKind.wrap .i64 (i + (2 : Int))), s), (c ++ [(IntKind.wrap .u8 (IntKind.wrap .i64 ((IntKind.wrap .i64 ((16 : Int) * h2)) + h3)))])) else none else none else none else none else none else none else none else none else none) else
 some (.inr (s, c))
noncomputable def zz55_l4 : ((Int × Str) × (List Int)) → Option ((Str × Bool) ⊕ (Str × (List Int))) := fixO (B := fun _ => (Str × Bool) ⊕ (Str × (List Int))) zz55_l4F
theorem zz55_l4_eq (q : ((Int × Str) × (List Int))) : zz55_l4 q = zz55_l4F zz55_l4 q := fixO_eq (B := fun _ => (Str × Bool) ⊕ (Str × (List Int))) (fun ((i, s), c) => (.ite (.ite (.ite (.bind (.const _) fun _ => (.ite (.const _) (.ite (.ite (.bind (.const _) fun _ => (.ite (.const _) (.ite (.ite (.bind (.const _) fun _ => (.ite (.ite (.bind (.const _) fun _ => (.ite (.app _) (.const _))) (.const _)) (.const _))) (.const _)) (.const _)))) (.const _)) (.const _)))) (.const _)) (.const _)) (.const _))) q
noncomputable def zz55 : Str → Option ((Str × Bool)) := fun s =>
 zz55_l4 (((0 : Int), s), []) >>= fun r =>
 Sum.elim (fun r1 => some r1) (fun r1 => some ((bytesStr r1.2), ((Int.tmod (r1.1.length : Int) (2 : Int)) == (0 : Int)))) r
noncomputable def zz58 : Str → Option ((Str × Bool)) := fun s =>
 if ((s.length : Int) != (71 : Int)) then some ([], false) else
 if ((7 : Int) ≤ (s.length : Int)) then
 if ((List.take 7 s) != ([115, 104, 97, 50, 53, 54, 58] : Str)) then some ([], false) else
 if ((7 : Int) ≤ (s.length : Int)) then
 if ((s.length : Int) ≤ (s.length : Int)) then
 zz55 (List.drop 7 (List.take (s.length : Int).toNat s)) >>= fun b =>
 some b else none else none else none
noncomputable def ref05_is : Str → Option (Bool) := fun s =>
 zz58 s >>= fun p =>
 some p.2
noncomputable def zz93_l3F (self : (Int × (Str × ((List Str) × Int))) → Option (Bool ⊕ Unit)) : (Int × (Str × ((List Str) × Int))) → Option (Bool ⊕ Unit) := fun (x9, s, x7, x8) =>
 if (decide (x9 < x8)) then (if ((0 : Int) ≤ x9) then
 if (x9 < (x7.length : Int)) then
 if ((elt .str x7 x9.toNat) == s) then some (.inl true) else
 self ((IntKind.wrap .i64 (x9 + (1 : Int))), (s, (x7, x8))) else none else none) else
 some (.inr ())
noncomputable def zz93_l3 : (Int × (Str × ((List Str) × Int))) → Option (Bool ⊕ Unit) := fixO (B := fun _ => Bool ⊕ Unit) zz93_l3F
theorem zz93_l3_eq (q : (Int × (Str × ((List Str) × Int)))) : zz93_l3 q = zz93_l3F zz93_l3 q := fixO_eq (B := fun _ => Bool ⊕ Unit) (fun (x9, s, x7, x8) => (.ite (.ite (.ite (.ite (.const _) (.app _)) (.const _)) (.const _)) (.const _))) q
noncomputable def zz93 : ((List Str) × Str) → Option (Bool) := fun (l, s) =>
 zz93_l3 ((0 : Int), (s, (l, (l.length : Int)))) >>= fun r =>
 Sum.elim (fun r1 => some r1) (fun r1 => some false) r
noncomputable def zz65_l3F (self : ((Int × ((List Str) × Int)) × (Bool × (Str × ((List (Str × Int)) × (List Str))))) → Option (Bool ⊕ (Bool × (Str × ((List (Str × Int)) × (List Str)))))) : ((Int × ((List Str) × Int)) × (Bool × (Str × ((List (Str × Int)) × (List Str))))) → Option (Bool ⊕ (Bool × (Str × ((List (Str × Int)) × (List Str))))) := fun ((x10, x8, x9), c) =>
 if (decide (x10 < x9)) then (if ((0 : Int) ≤ x10) then
 if (x10 < (x8.length : Int)) then
 ref05_is (elt .str x8 x10.toNat) >>= fun i =>
 if (!i) then some (.inl false) else
 if ((0 : Int) ≤ x10) then
 if (x10 ≤ (c.2.2.2.length : Int)) then
 zz93 ((List.take x10.toNat c.2.2.2), (elt .str x8 x10.toNat)) >>= fun h =>
 if h then some (.inl false) else
 self (((IntKind.wrap .i64 (x10 + (1 : Int))), (x8, x9)), c) else none else none else none else none) else
 some (.inr c)
noncomputable def zz65_l3 : ((Int × ((List Str) × Int)) × (Bool × (Str × ((List (Str × Int)) × (List Str))))) → Option (Bool ⊕ (Bool × (Str × ((List (Str × Int)) × (List Str))))) := fixO (B := fun _ => Bool ⊕ (Bool × (Str × ((List (Str × Int)) × (List Str))))) zz65_l3F
theorem zz65_l3_eq (q : ((Int × ((List Str) × Int)) × (Bool × (Str × ((List (Str × Int)) × (List Str)))))) : zz65_l3 q = zz65_l3F zz65_l3 q := fixO_eq (B := fun _ => Bool ⊕ (Bool × (Str × ((List (Str × Int)) × (List Str))))) (fun ((x10, x8, x9), c) => (.ite (.ite (.ite (.bind (.const _) fun _ => (.ite (.const _) (.ite (.ite (.bind (.const _) fun _ => (.ite (.const _) (.app _))) (.const _)) (.const _)))) (.const _)) (.const _)) (.const _))) q
noncomputable def zz65_l12F (self : ((Int × ((List (Str × Int)) × Int)) × (Bool × (Str × ((List (Str × Int)) × (List Str))))) → Option (Bool ⊕ (Bool × (Str × ((List (Str × Int)) × (List Str)))))) : ((Int × ((List (Str × Int)) × Int)) × (Bool × (Str × ((List (Str × Int)) × (List Str))))) → Option (Bool ⊕ (Bool × (Str × ((List (Str × Int)) × (List Str))))) := fun ((x30, x28, x29), c) =>
 if (decide (x30 < x29)) then (if ((0 : Int) ≤ x30) then
 if (x30 < (x28.length : Int)) then
 ref05_is (elt (.pair .str (.int .i64)) x28 x30.toNat).1 >>= fun i =>
 if (!i) then some (.inl false) else
 if (decide ((elt (.pair .str (.int .i64)) x28 x30.toNat).2 < (0 : Int))) then some (.inl false) else
 if (decide ((elt (.pair .str (.int .i64)) x28 x30.toNat).2 > (4096 : Int))) then some (.inl false) else
 self (((IntKind.wrap .i64 (x30 + (1 : Int))), (x28, x29)), c) else none else none) else
 some (.inr c)
noncomputable def zz65_l12 : ((Int × ((List (Str × Int)) × Int)) × (Bool × (Str × ((List (Str × Int)) × (List Str))))) → Option (Bool ⊕ (Bool × (Str × ((List (Str × Int)) × (List Str))))) := fixO (B := fun _ => Bool ⊕ (Bool × (Str × ((List (Str × Int)) × (List Str))))) zz65_l12F
theorem zz65_l12_eq (q : ((Int × ((List (Str × Int)) × Int)) × (Bool × (Str × ((List (Str × Int)) × (List Str)))))) : zz65_l12 q = zz65_l12F zz65_l12 q := fixO_eq (B := fun _ => Bool ⊕ (Bool × (Str × ((List (Str × Int)) × (List Str))))) (fun ((x30, x28, x29), c) => (.ite (.ite (.ite (.bind (.const _) fun _ => (.ite (.const _) (.ite (.const _) (.ite (.const _) (.app _))))) (.const _)) (.const _)) (.const _))) q
noncomputable def zz65 : (Bool × (Str × ((List (Str × Int)) × (List Str)))) → Option (Bool) := fun m =>
 zz65_l3 (((0 : Int), (m.2.2.2, (m.2.2.2.length : Int))), m) >>= fun r =>
 Sum.elim (fun r1 => some r1) (fun r1 => zz65_l12 (((0 : Int), (r1.2.2.1, (r1.2.2.1.length : Int))), r1) >>= fun r2 =>
 Sum.elim (fun r3 => some r3) (fun r3 => if (decide ((r3.2.2.2.length : Int) > (8 : Int))) then some false else
 if (decide ((r3.2.2.1.length : Int) > (8 : Int))) then some false else
 if r3.1 then (if (decide ((r3.2.2.2.length : Int) > (0 : Int))) then (if (r3.2.1 == []) then some ((r3.2.2.1.length : Int) == (0 : Int)) else
 some false) else
 some false) else
 ref05_is r3.2.1 >>= fun i =>
 if i then some ((r3.2.2.2.length : Int) == (0 : Int)) else
 some false) r2) r
noncomputable def zz30_l7F (self : ((Int × ((List (Str × Int)) × Int)) × (List Str)) → Option ((List Str))) : ((Int × ((List (Str × Int)) × Int)) × (List Str)) → Option ((List Str)) := fun ((x19, x17, x18), c) =>
 if (decide (x19 < x18)) then (if ((0 : Int) ≤ x19) then
 if (x19 < (x17.length : Int)) then
 zz14 (c, (elt (.pair .str (.int .i64)) x17 x19.toNat).1) >>= fun s =>
 if (!s) then (if (sumOk (c.length + [(elt (.pair .str (.int .i64)) x17 x19.toNat).1].length) 16) then
 self (((IntKind.wrap .i64 (x19 + (1 : Int))), (x17, x18)), (c ++ [(elt (.pair .str (.int .i64)) x17 x19.toNat).1])) else none) else
 self (((IntKind.wrap .i64 (x19 + (1 : Int))), (x17, x18)), c) else none else none) else
 some c
noncomputable def zz30_l7 : ((Int × ((List (Str × Int)) × Int)) × (List Str)) → Option ((List Str)) := fixO (B := fun _ => (List Str)) zz30_l7F
theorem zz30_l7_eq (q : ((Int × ((List (Str × Int)) × Int)) × (List Str))) : zz30_l7 q = zz30_l7F zz30_l7 q := fixO_eq (B := fun _ => (List Str)) (fun ((x19, x17, x18), c) => (.ite (.ite (.ite (.bind (.const _) fun _ => (.ite (.ite (.app _) (.const _)) (.app _))) (.const _)) (.const _)) (.const _))) q
noncomputable def zz30 : (Bool × (Str × ((List (Str × Int)) × (List Str)))) → Option ((List Str)) := fun m =>
 if m.1 then some [] else
 zz33 m >>= fun r =>
 if (!r) then some [] else
 zz30_l7 (((0 : Int), (m.2.2.1, (m.2.2.1.length : Int))), [m.2.1]) >>= fun r1 =>
 some r1
noncomputable def zz63_l8F (self : ((Int × ((List (Str × Int)) × Int)) × (List Str)) → Option ((List Str))) : ((Int × ((List (Str × Int)) × Int)) × (List Str)) → Option ((List Str)) := fun ((x23, x21, x22), c) =>
 if (decide (x23 < x22)) then (if ((0 : Int) ≤ x23) then
 if (x23 < (x21.length : Int)) then
 zz93 (c, (elt (.pair .str (.int .i64)) x21 x23.toNat).1) >>= fun h =>
 if (!h) then (if (sumOk (c.length + [(elt (.pair .str (.int .i64)) x21 x23.toNat).1].length) 16) then
 self (((IntKind.wrap .i64 (x23 + (1 : Int))), (x21, x22)), (c ++ [(elt (.pair .str (.int .i64)) x21 x23.toNat).1])) else none) else
 self (((IntKind.wrap .i64 (x23 + (1 : Int))), (x21, x22)), c) else none else none) else
 some c
noncomputable def zz63_l8 : ((Int × ((List (Str × Int)) × Int)) × (List Str)) → Option ((List Str)) := fixO (B := fun _ => (List Str)) zz63_l8F
theorem zz63_l8_eq (q : ((Int × ((List (Str × Int)) × Int)) × (List Str))) : zz63_l8 q = zz63_l8F zz63_l8 q := fixO_eq (B := fun _ => (List Str)) (fun ((x23, x21, x22), c) => (.ite (.ite (.ite (.bind (.const _) fun _ => (.ite (.ite (.app _) (.const _)) (.app _))) (.const _)) (.const _)) (.const _))) q
noncomputable def zz63 : (Bool × (Str × ((List (Str × Int)) × (List Str)))) → Option ((List Str)) := fun m =>
 if m.1 then some [] else
 zz65 m >>= fun r =>
 if (!r) then some [] else
 zz63_l8 (((0 : Int), (m.2.2.1, (m.2.2.1.length : Int))), [m.2.1]) >>= fun r1 =>
 some r1
noncomputable def zz72_l6F (self : (Int × ((List Str) × ((List Str) × Int))) → Option (Bool ⊕ Unit)) : (Int × ((List Str) × ((List Str) × Int))) → Option (Bool ⊕ Unit) := fun (x13, b, a, x12) =>
 if (decide (x13 < x12)) then (if ((0 : Int) ≤ x13) then
 if (x13 < (a.length : Int)) then
 if ((0 : Int) ≤ x13) then
 if (x13 < (b.length : Int)) then
 if ((elt .str a x13.toNat) != (elt .str b x13.toNat)) then some (.inl false) else
 self ((IntKind.wrap .i64 (x13 + (1 : Int))), (b, (a, x12))) else none else none else none else none) else
 some (.inr ())
noncomputable def zz72_l6 : (Int × ((List Str) × ((List Str) × Int))) → Option (Bool ⊕ Unit) := fixO (B := fun _ => Bool ⊕ Unit) zz72_l6F
theorem zz72_l6_eq (q : (Int × ((List Str) × ((List Str) × Int)))) : zz72_l6 q = zz72_l6F zz72_l6 q := fixO_eq (B := fun _ => Bool ⊕ Unit) (fun (x13, b, a, x12) => (.ite (.ite (.ite (.ite (.ite (.ite (.const _) (.app _)) (.const _)) (.const _)) (.const _)) (.const _)) (.const _))) q
noncomputable def zz72 : ((List Str) × (List Str)) → Option (Bool) := fun (a, b) =>
 if ((a.length : Int) != (b.length : Int)) then some false else
 zz72_l6 ((0 : Int), (b, (a, (a.length : Int)))) >>= fun r =>
 Sum.elim (fun r1 => some r1) (fun r1 => some true) r
noncomputable def zz70_l5F (self : (Str × Int) → Option ((Int × Str))) : (Str × Int) → Option ((Int × Str)) := fun (s, many) =>
 if ((Int.tmod (s.length : Int) (64 : Int)) != (56 : Int)) then (if ((s.length + ([0] : Str).length) ≤ 9223372036854775807) then
 self ((s ++ ([0] : Str)), many) else none) else
 some (many, s)
noncomputable def zz70_l5 : (Str × Int) → Option ((Int × Str)) := fixO (B := fun _ => (Int × Str)) zz70_l5F
theorem zz70_l5_eq (q : (Str × Int)) : zz70_l5 q = zz70_l5F zz70_l5 q := fixO_eq (B := fun _ => (Int × Str)) (fun (s, many) => (.ite (.ite (.app _) (.const _)) (.const _))) q
noncomputable def zz70_l10F (self : (Int × (Int × Str)) → Option (Str)) : (Int × (Int × Str)) → Option (Str) := fun (i, many, s) =>
 if (decide (i ≥ (0 : Int))) then (if ((0 : Int) ≤ (IntKind.wrap .i64 ((8 : Int) * i))) then
 if ((s.length + (bytesStr [(IntKind.wrap .u8 (ishr .u64 many (IntKind.wrap .i64 ((8 : Int) * i))))]).length) ≤ 9223372036854775807) then
 self ((IntKind.wrap .i64 (i - (1 : Int))), (many, (s ++ (bytesStr [(IntKind.wrap .u8 (ishr .u64 many (IntKind.wrap .i64 ((8 : Int) * i))))])))) else none else none) else
 some s
noncomputable def zz70_l10 : (Int × (Int × Str)) → Option (Str) := fixO (B := fun _ => Str) zz70_l10F
theorem zz70_l10_eq (q : (Int × (Int × Str))) : zz70_l10 q = zz70_l10F zz70_l10 q := fixO_eq (B := fun _ => Str) (fun (i, many, s) => (.ite (.ite (.ite (.app _) (.const _)) (.const _)) (.const _))) q
noncomputable def zz41 : Unit → Option ((Int × (Int × (Int × (Int × (Int × (Int × (Int × Int)))))))) := fun _ =>
 some ((1779033703 : Int), ((3144134277 : Int), ((1013904242 : Int), ((2773480762 : Int), ((1359893119 : Int), ((2600822924 : Int), ((528734635 : Int), (1541459225 : Int))))))))
noncomputable def zz71 : Str → Option (Int) := fun s =>
 if ((0 : Int) < (s.length : Int)) then
 if ((1 : Int) < (s.length : Int)) then
 if ((2 : Int) < (s.length : Int)) then
 if ((3 : Int) < (s.length : Int)) then
 some (ior .u32 (ior .u32 (ior .u32 (ishl .u32 (IntKind.wrap .u32 (bt s (0 : Int))) (24 : Int)) (ishl .u32 (IntKind.wrap .u32 (bt s (1 : Int))) (16 : Int))) (ishl .u32 (IntKind.wrap .u32 (bt s (2 : Int))) (8 : Int))) (IntKind.wrap .u32 (bt s (3 : Int)))) else none else none else none else none
noncomputable def bits_RotateLeft32 : (Int × Int) → Option (Int) := fun (x1, k) =>
 if ((0 : Int) ≤ (IntKind.wrap .u64 ((32 : Int) - (iand .u64 (IntKind.wrap .u64 k) (31 : Int))))) then
 some (ior .u32 (ishl .u32 x1 (iand .u64 (IntKind.wrap .u64 k) (31 : Int))) (ishr .u32 x1 (IntKind.wrap .u64 ((32 : Int) - (iand .u64 (IntKind.wrap .u64 k) (31 : Int)))))) else none
noncomputable def zz46 : (Int × (Int × (Int × (Int × Bool)))) → Option (Int) := fun (x1, a, b, c, moved) =>
 bits_RotateLeft32 (x1, (IntKind.wrap .i64 ((0 : Int) - c))) >>= fun b1 =>
 if moved then (if ((0 : Int) ≤ c) then
 bits_RotateLeft32 (x1, (IntKind.wrap .i64 ((0 : Int) - a))) >>= fun b2 =>
 bits_RotateLeft32 (x1, (IntKind.wrap .i64 ((0 : Int) - b))) >>= fun b3 =>
 some (ixor .u32 (ixor .u32 b2 b3) (ishr .u32 x1 c)) else none) else
 bits_RotateLeft32 (x1, (IntKind.wrap .i64 ((0 : Int) - a))) >>= fun b2 =>
 bits_RotateLeft32 (x1, (IntKind.wrap .i64 ((0 : Int) - b))) >>= fun b3 =>
 some (ixor .u32 (ixor .u32 b2 b3) b1)
noncomputable def zz51_l4F (self : ((Int × Str) × ((List Int) × ((List Int) × (List Int)))) → Option (((List Int) × ((List Int) × (List Int))))) : ((Int × Str) × ((List Int) × ((List Int) × (List Int)))) → Option (((List Int) × ((List Int) × (List Int)))) := fun ((x14, s), c, c1, c2) =>
 if (decide (x14 < (64 : Int))) then (if (decide (x14 < (16 : Int))) then (if ((0 : Int) ≤ (IntKind.wrap .i64 ((4 : Int) * x14))) then
 if ((IntKind.wrap .i64 ((4 : Int) * x14)) ≤ (s.length : Int)) then
 if ((s.length : Int) ≤ (s.length : Int)) then
 zz71 (List.drop (IntKind.wrap .i64 ((4 : Int) * x14)).toNat (List.take (s.length : Int).toNat s)) >>= fun b =>
 if ((0 : Int) ≤ x14) then
 if (x14 < (64 : Int)) then
 if (x14.toNat < c.length) then
 self (((IntKind.wrap .i64 (x14 + (1 : Int))), s), ((List.set c x14.toNat b), (c1, c2))) else none else none else none else none else none else none) else
 if ((0 : Int) ≤ (IntKind.wrap .i64 (x14 - (2 : Int)))) then
 if ((IntKind.wrap .i64 (x14 - (2 : Int))) < (64 : Int)) then
 if ((IntKind.wrap .i64 (x14 - (2 : Int))).toNat < c.length) then
 zz46 ((elt (.int .u32) c (IntKind.wrap .i64 (x14 - (2 : Int))).toNat), ((17 : Int), ((19 : Int), ((10 : Int), true)))) >>= fun m =>
 if ((0 : Int) ≤ (IntKind.wrap .i64 (x14 - (7 : Int)))) then
 if ((IntKind.wrap .i64 (x14 - (7 : Int))) < (64 : Int)) then
 if ((IntKind.wrap .i64 (x14 - (7 : Int))).toNat < c.length) then
 if ((0 : Int) ≤ (IntKind.wrap .i64 (x14 - (15 : Int)))) then
 if ((IntKind.wrap .i64 (x14 - (15 : Int))) < (64 : Int)) then
 if ((IntKind.wrap .i64 (x14 - (15 : Int))).toNat < c.length) then
 zz46 ((elt (.int .u32) c (IntKind.wrap .i64 (x14 - (15 : Int))).toNat), ((7 : Int), ((18 : Int), ((3 : Int), true)))) >>= fun m1 =>
 if ((0 : Int) ≤ (IntKind.wrap .i64 (x14 - (16 : Int)))) then
 if ((IntKind.wrap .i64 (x14 - (16 : Int))) < (64 : Int)) then
 if ((IntKind.wrap .i64 (x14 - (16 : Int))).toNat < c.length) then
 if ((0 : Int) ≤ x14) then
 if (x14 < (64 : Int)) then
 if (x14.toNat < c.length) then
 self (((IntKind.wrap .i64 (x14 + (1 : Int))), s), ((List.set c x14.toNat (IntKind.wrap .u32 ((IntKind.wrap .u32 ((IntKind.wrap .u32 (m + (elt (.int .u32) c (IntKind.wrap .i64 (x14 - (7 : Int))).toNat))) + m1)) + (elt (.int .u32) c (IntKind.wrap .i64 (x14 - (16 : Int))).toNat)))), (c1, c2))) else none else none else none else none else none else none else none else none else none else none else none else none else none else none else none) else
 some (c, (c1, c2))
noncomputable def zz51_l4 : ((Int × Str) × ((List Int) × ((List Int) × (List Int)))) → Option (((List Int) × ((List Int) × (List Int)))) := fixO (B := fun _ => ((List Int) × ((List Int) × (List Int)))) zz51_l4F
theorem zz51_l4_eq (q : ((Int × Str) × ((List Int) × ((List Int) × (List Int))))) : zz51_l4 q = zz51_l4F zz51_l4 q := fixO_eq (B := fun _ => ((List Int) × ((List Int) × (List Int)))) (fun ((x14, s), c, c1, c2) => (.ite (.ite (.ite (.ite (.ite (.bind (.const _) fun _ => (.ite (.ite (.ite (.app _) (.const _)) (.const _)) (.const _))) (.const _)) (.const _)) (.const _)) (.ite (.ite (.ite (.bind (.const _) fun _ => (.ite (.ite (.ite (.ite (.ite (.ite (.bind (.const _) fun _ => (.ite (.ite (.ite (.ite (.ite (.ite (.app _) (.const _)) (.const _)) (.const _)) (.const _)) (.const _)) (.const _))) (.const _)) (.const _)) (.const _)) (.const _)) (.const _)) (.const _))) (.const _)) (.const _)) (.const _))) (.const _))) q
noncomputable def zz51_l15F (self : (Int × ((List Int) × ((List Int) × ((List Int) × (List Int))))) → Option (((List Int) × ((List Int) × (List Int))))) : (Int × ((List Int) × ((List Int) × ((List Int) × (List Int))))) → Option (((List Int) × ((List Int) × (List Int)))) := fun (x51, c, c1, c2, c3) =>
 if (decide (x51 < (64 : Int))) then (if (0 < c.length) then
 if (4 < c.length) then
 if (7 < c.length) then
 zz46 ((elt (.int .u32) c 4), ((6 : Int), ((11 : Int), ((25 : Int), false)))) >>= fun m =>
 if (5 < c.length) then
 if (6 < c.length) then
 if ((0 : Int) ≤ x51) then
 if (x51 < (64 : Int)) then
 if (x51 < (keysTab.length : Int)) then
 if ((0 : Int) ≤ x51) then
 if (x51 < (64 : Int)) then
 if (x51.toNat < c1.length) then
 zz46 ((elt (.int .u32) c 0), ((2 : Int), ((13 : Int), ((22 : Int), false)))) >>= fun m1 =>
 if (1 < c.length) then
 if (2 < c.length) then
 if (1 < c.length) then
 if (2 < c.length) then
 if (1 < c.length) then
 if (2 < c.length) then
 if (3 < c.length) then
 if (5 < c.length) then
 if (6 < c.length) then
 if (c.length = 8) then
 self ((IntKind.wrap .i64 (x51 + (1 : Int))), ([(IntKind.wrap .u32 ((IntKind.wrap .u32 ((IntKind.wrap .u32 ((IntKind.wrap .u32 ((IntKind.wrap .u32 ((elt (.int .u32) c 7) + m)) + (ixor .u32 (iand .u32 (elt (.int .u32) c 4) (elt (.int .u32) c 5)) (iand .u32 (ixor .u32 (4294967295 : Int) (elt (.int .u32) c 4)) (elt (.int .u32) c 6))))) + (elt (.int .u32) keysTab x51.toNat))) + (elt (.int .u32) c1 x51.toNat))) + (IntKind.wrap .u32 (m1 + (ixor .u32 (ixor .u32 (iand .u32 (elt (.int .u32) c 0) (elt (.int .u32) c 1)) (iand .u32 (elt (.int .u32) c 0) (elt (.int .u32) c 2))) (iand .u32 (elt (.int .u32) c 1) (elt (.int .u32) c 2))))))), (elt (.int .u32) c 0), (elt (.int .u32) c 1), (elt (.int .u32) c 2), (IntKind.wrap .u32 ((elt (.int .u32) c 3) + (IntKind.wrap .u32 ((IntKind.wrap .u32 ((IntKind.wrap .u32 ((IntKind.wrap .u32 ((elt (.int .u32) c 7) + m)) + (ixor .u32 (iand .u32 (elt (.int .u32) c 4) (elt (.int .u32) c 5)) (iand .u32 (ixor .u32 (4294967295 : Int) (elt (.int .u32) c 4)) (elt (.int .u32) c 6))))) + (elt (.int .u32) keysTab x51.toNat))) + (elt (.int .u32) c1 x51.toNat))))), (elt (.int .u32) c 4), (elt (.int .u32) c 5), (elt (.int .u32) c 6)], (c1, (c2, c3)))) else none else none else none else none else none else none else none else none else none else none else none else none else none else none else none else none else none else none else none else none else none) else
 some (c2, (c, c3))
noncomputable def zz51_l15 : (Int × ((List Int) × ((List Int) × ((List Int) × (List Int))))) → Option (((List Int) × ((List Int) × (List Int)))) := fixO (B := fun _ => ((List Int) × ((List Int) × (List Int)))) zz51_l15F
theorem zz51_l15_eq (q : (Int × ((List Int) × ((List Int) × ((List Int) × (List Int)))))) : zz51_l15 q = zz51_l15F zz51_l15 q := fixO_eq (B := fun _ => ((List Int) × ((List Int) × (List Int)))) (fun (x51, c, c1, c2, c3) => (.ite (.ite (.ite (.ite (.bind (.const _) fun _ => (.ite (.ite (.ite (.ite (.ite (.ite (.ite (.ite (.bind (.const _) fun _ => (.ite (.ite (.ite (.ite (.ite (.ite (.ite (.ite (.ite (.ite (.app _) (.const _)) (.const _)) (.const _)) (.const _)) (.const _)) (.const _)) (.const _)) (.const _)) (.const _)) (.const _))) (.const _)) (.const _)) (.const _)) (.const _)) (.const _)) (.const _)) (.const _)) (.const _))) (.const _)) (.const _)) (.const _)) (.const _))) q
noncomputable def zz51_l25F (self : (Int × ((List Int) × ((List Int) × (List Int)))) → Option (((List Int) × (List Int)))) : (Int × ((List Int) × ((List Int) × (List Int)))) → Option (((List Int) × (List Int))) := fun (x119, c, c1, c2) =>
 if (decide (x119 < (8 : Int))) then (if ((0 : Int) ≤ x119) then
 if (x119 < (8 : Int)) then
 if (x119.toNat < c.length) then
 if ((0 : Int) ≤ x119) then
 if (x119 < (8 : Int)) then
 if (x119.toNat < c1.length) then
 if ((0 : Int) ≤ x119) then
 if (x119 < (8 : Int)) then
 if (x119.toNat < c.length) then
 self ((IntKind.wrap .i64 (x119 + (1 : Int))), ((List.set c x119.toNat (IntKind.wrap .u32 ((elt (.int .u32) c x119.toNat) + (elt (.int .u32) c1 x119.toNat)))), (c1, c2))) else none else none else none else none else none else none else none else none else none) else
 some (c2, c)
noncomputable def zz51_l25 : (Int × ((List Int) × ((List Int) × (List Int)))) → Option (((List Int) × (List Int))) := fixO (B := fun _ => ((List Int) × (List Int))) zz51_l25F
theorem zz51_l25_eq (q : (Int × ((List Int) × ((List Int) × (List Int))))) : zz51_l25 q = zz51_l25F zz51_l25 q := fixO_eq (B := fun _ => ((List Int) × (List Int))) (fun (x119, c, c1, c2) => (.ite (.ite (.ite (.ite (.ite (.ite (.ite (.ite (.ite (.ite (.app _) (.const _)) (.const _)) (.const _)) (.const _)) (.const _)) (.const _)) (.const _)) (.const _)) (.const _)) (.const _))) q
noncomputable def zz51 : ((Int × (Int × (Int × (Int × (Int × (Int × (Int × Int))))))) × Str) → Option ((Int × (Int × (Int × (Int × (Int × (Int × (Int × Int)))))))) := fun (h, s) =>
 zz51_l4 (((0 : Int), s), ((List.replicate 64 (0 : Int)), ([h.1, h.2.1, h.2.2.1, h.2.2.2.1, h.2.2.2.2.1, h.2.2.2.2.2.1, h.2.2.2.2.2.2.1, h.2.2.2.2.2.2.2], [0, 0, 0, 0, 0, 0, 0, 0]))) >>= fun r =>
 if (8 ≤ r.2.1.length) then
 zz51_l15 ((0 : Int), ([(elt (.int .u32) r.2.1 0), (elt (.int .u32) r.2.1 1), (elt (.int .u32) r.2.1 2), (elt (.int .u32) r.2.1 3), (elt (.int .u32) r.2.1 4), (elt (.int .u32) r.2.1 5), (elt (.int .u32) r.2.1 6), (elt (.int .u32) r.2.1 7)], r)) >>= fun r1 =>
 zz51_l25 ((0 : Int), r1) >>= fun r2 =>
 if (8 ≤ r2.2.length) then
 if (r2.1.length = 8) then
 some ((elt (.int .u32) r2.2 0), ((elt (.int .u32) r2.2 1), ((elt (.int .u32) r2.2 2), ((elt (.int .u32) r2.2 3), ((elt (.int .u32) r2.2 4), ((elt (.int .u32) r2.2 5), ((elt (.int .u32) r2.2 6), (elt (.int .u32) r2.2 7)))))))) else none else none else none
noncomputable def zz70_l16F (self : (Str × (List Int)) → Option ((List Int))) : (Str × (List Int)) → Option ((List Int)) := fun (s, c) =>
 if (s != []) then (if (8 ≤ c.length) then
 zz51 (((elt (.int .u32) c 0), ((elt (.int .u32) c 1), ((elt (.int .u32) c 2), ((elt (.int .u32) c 3), ((elt (.int .u32) c 4), ((elt (.int .u32) c 5), ((elt (.int .u32) c 6), (elt (.int .u32) c 7)))))))), s) >>= fun o =>
 if (c.length = 8) then
 if ((64 : Int) ≤ (s.length : Int)) then
 if ((s.length : Int) ≤ (s.length : Int)) then
 self ((List.drop 64 (List.take (s.length : Int).toNat s)), [o.1, o.2.1, o.2.2.1, o.2.2.2.1, o.2.2.2.2.1, o.2.2.2.2.2.1, o.2.2.2.2.2.2.1, o.2.2.2.2.2.2.2]) else none else none else none else none) else
 some c
noncomputable def zz70_l16 : (Str × (List Int)) → Option ((List Int)) := fixO (B := fun _ => (List Int)) zz70_l16F
theorem zz70_l16_eq (q : (Str × (List Int))) : zz70_l16 q = zz70_l16F zz70_l16 q := fixO_eq (B := fun _ => (List Int)) (fun (s, c) => (.ite (.ite (.bind (.const _) fun _ => (.ite (.ite (.ite (.app _) (.const _)) (.const _)) (.const _))) (.const _)) (.const _))) q
noncomputable def zz70_l23F (self : ((Int × (Int × (Int × (Int × (Int × (Int × (Int × (Int × Int)))))))) × (List Int)) → Option ((List Int))) : ((Int × (Int × (Int × (Int × (Int × (Int × (Int × (Int × Int)))))))) × (List Int)) → Option ((List Int)) := fun ((x46, x45), c) =>
 if (decide (x46 < (8 : Int))) then (if (decide (x46 = (7 : Int))) then (if (sumOk (c.length + [(IntKind.wrap .u8 (ishr .u32 x45.2.2.2.2.2.2.2 (24 : Int))), (IntKind.wrap .u8 (ishr .u32 x45.2.2.2.2.2.2.2 (16 : Int))), (IntKind.wrap .u8 (ishr .u32 x45.2.2.2.2.2.2.2 (8 : Int))), (IntKind.wrap .u8 x45.2.2.2.2.2.2.2)].length) 1) then
 self (((IntKind.wrap .i64 ((7 : Int) + (1 : Int))), x45), (c ++ [(IntKind.wrap .u8 (ishr .u32 x45.2.2.2.2.2.2.2 (24 : Int))), (IntKind.wrap .u8 (ishr .u32 x45.2.2.2.2.2.2.2 (16 : Int))), (IntKind.wrap .u8 (ishr .u32 x45.2.2.2.2.2.2.2 (8 : Int))), (IntKind.wrap .u8 x45.2.2.2.2.2.2.2)])) else none) else
 if (decide (x46 = (6 : Int))) then (if (sumOk (c.length + [(IntKind.wrap .u8 (ishr .u32 x45.2.2.2.2.2.2.1 (24 : Int))), (IntKind.wrap .u8 (ishr .u32 x45.2.2.2.2.2.2.1 (16 : Int))), (IntKind.wrap .u8 (ishr .u32 x45.2.2.2.2.2.2.1 (8 : Int))), (IntKind.wrap .u8 x45.2.2.2.2.2.2.1)].length) 1) then
 self (((IntKind.wrap .i64 ((6 : Int) + (1 : Int))), x45), (c ++ [(IntKind.wrap .u8 (ishr .u32 x45.2.2.2.2.2.2.1 (24 : Int))), (IntKind.wrap .u8 (ishr .u32 x45.2.2.2.2.2.2.1 (16 : Int))), (IntKind.wrap .u8 (ishr .u32 x45.2.2.2.2.2.2.1 (8 : Int))), (IntKind.wrap .u8 x45.2.2.2.2.2.2.1)])) else none) else
 if (decide (x46 = (5 : Int))) then (if (sumOk (c.length + [(IntKind.wrap .u8 (ishr .u32 x45.2.2.2.2.2.1 (24 : Int))), (IntKind.wrap .u8 (ishr .u32 x45.2.2.2.2.2.1 (16 : Int))), (IntKind.wrap .u8 (ishr .u32 x45.2.2.2.2.2.1 (8 : Int))), (IntKind.wrap .u8 x45.2.2.2.2.2.1)].length) 1) then
 self (((IntKind.wrap .i64 ((5 : Int) + (1 : Int))), x45), (c ++ [(IntKind.wrap .u8 (ishr .u32 x45.2.2.2.2.2.1 (24 : Int))), (IntKind.wrap .u8 (ishr .u32 x45.2.2.2.2.2.1 (16 : Int))), (IntKind.wrap .u8 (ishr .u32 x45.2.2.2.2.2.1 (8 : Int))), (IntKind.wrap .u8 x45.2.2.2.2.2.1)])) else none) else
 if (decide (x46 = (4 : Int))) then (if (sumOk (c.length + [(IntKind.wrap .u8 (ishr .u32 x45.2.2.2.2.1 (24 : Int))), (IntKind.wrap .u8 (ishr .u32 x45.2.2.2.2.1 (16 : Int))), (IntKind.wrap .u8 (ishr .u32 x45.2.2.2.2.1 (8 : Int))), (IntKind.wrap .u8 x45.2.2.2.2.1)].length) 1) then
 self (((IntKind.wrap .i64 ((4 : Int) + (1 : Int))), x45), (c ++ [(IntKind.wrap .u8 (ishr .u32 x45.2.2.2.2.1 (24 : Int))), (IntKind.wrap .u8 (ishr .u32 x45.2.2.2.2.1 (16 : Int))), (IntKind.wrap .u8 (ishr .u32 x45.2.2.2.2.1 (8 : Int))), (IntKind.wrap .u8 x45.2.2.2.2.1)])) else none) else
 if (decide (x46 = (3 : Int))) then (if (sumOk (c.length + [(IntKind.wrap .u8 (ishr .u32 x45.2.2.2.1 (24 : Int))), (IntKind.wrap .u8 (ishr .u32 x45.2.2.2.1 (16 : Int))), (IntKind.wrap .u8 (ishr .u32 x45.2.2.2.1 (8 : Int))), (IntKind.wrap .u8 x45.2.2.2.1)].length) 1) then
 self (((IntKind.wrap .i64 ((3 : Int) + (1 : Int))), x45), (c ++ [(IntKind.wrap .u8 (ishr .u32 x45.2.2.2.1 (24 : Int))), (IntKind.wrap .u8 (ishr .u32 x45.2.2.2.1 (16 : Int))), (IntKind.wrap .u8 (ishr .u32 x45.2.2.2.1 (8 : Int))), (IntKind.wrap .u8 x45.2.2.2.1)])) else none) else
 if (decide (x46 = (2 : Int))) then (if (sumOk (c.length + [(IntKind.wrap .u8 (ishr .u32 x45.2.2.1 (24 : Int))), (IntKind.wrap .u8 (ishr .u32 x45.2.2.1 (16 : Int))), (IntKind.wrap .u8 (ishr .u32 x45.2.2.1 (8 : Int))), (IntKind.wrap .u8 x45.2.2.1)].length) 1) then
 self (((IntKind.wrap .i64 ((2 : Int) + (1 : Int))), x45), (c ++ [(IntKind.wrap .u8 (ishr .u32 x45.2.2.1 (24 : Int))), (IntKind.wrap .u8 (ishr .u32 x45.2.2.1 (16 : Int))), (IntKind.wrap .u8 (ishr .u32 x45.2.2.1 (8 : Int))), (IntKind.wrap .u8 x45.2.2.1)])) else none) else
 if (decide (x46 = (1 : Int))) then (if (sumOk (c.length + [(IntKind.wrap .u8 (ishr .u32 x45.2.1 (24 : Int))), (IntKind.wrap .u8 (ishr .u32 x45.2.1 (16 : Int))), (IntKind.wrap .u8 (ishr .u32 x45.2.1 (8 : Int))), (IntKind.wrap .u8 x45.2.1)].length) 1) then
 self (((IntKind.wrap .i64 ((1 : Int) + (1 : Int))), x45), (c ++ [(IntKind.wrap .u8 (ishr .u32 x45.2.1 (24 : Int))), (IntKind.wrap .u8 (ishr .u32 x45.2.1 (16 : Int))), (IntKind.wrap .u8 (ishr .u32 x45.2.1 (8 : Int))), (IntKind.wrap .u8 x45.2.1)])) else none) else
 if (decide (x46 = (0 : Int))) then (if (sumOk (c.length + [(IntKind.wrap .u8 (ishr .u32 x45.1 (24 : Int))), (IntKind.wrap .u8 (ishr .u32 x45.1 (16 : Int))), (IntKind.wrap .u8 (ishr .u32 x45.1 (8 : Int))), (IntKind.wrap .u8 x45.1)].length) 1) then
 self (((IntKind.wrap .i64 ((0 : Int) + (1 : Int))), x45), (c ++ [(IntKind.wrap .u8 (ishr .u32 x45.1 (24 : Int))), (IntKind.wrap .u8 (ishr .u32 x45.1 (16 : Int))), (IntKind.wrap .u8 (ishr .u32 x45.1 (8 : Int))), (IntKind.wrap .u8 x45.1)])) else none) else
 none) else
 some c
noncomputable def zz70_l23 : ((Int × (Int × (Int × (Int × (Int × (Int × (Int × (Int × Int)))))))) × (List Int)) → Option ((List Int)) := fixO (B := fun _ => (List Int)) zz70_l23F
theorem zz70_l23_eq (q : ((Int × (Int × (Int × (Int × (Int × (Int × (Int × (Int × Int)))))))) × (List Int))) : zz70_l23 q = zz70_l23F zz70_l23 q := fixO_eq (B := fun _ => (List Int)) (fun ((x46, x45), c) => (.ite (.ite (.ite (.app _) (.const _)) (.ite (.ite (.app _) (.const _)) (.ite (.ite (.app _) (.const _)) (.ite (.ite (.app _) (.const _)) (.ite (.ite (.app _) (.const _)) (.ite (.ite (.app _) (.const _)) (.ite (.ite (.app _) (.const _)) (.ite (.ite (.app _) (.const _)) (.const _))))))))) (.const _))) q
noncomputable def zz70 : (List Str) → Option (Str) := fun parts =>
 lib_Join (parts, []) >>= fun j =>
 if ((j.length + ([128] : Str).length) ≤ 9223372036854775807) then
 zz70_l5 ((j ++ ([128] : Str)), (IntKind.wrap .u64 ((IntKind.wrap .u64 (j.length : Int)) * (8 : Int)))) >>= fun r =>
 zz70_l10 ((7 : Int), r) >>= fun r1 =>
 zz41 () >>= fun b =>
 zz70_l16 (r1, [b.1, b.2.1, b.2.2.1, b.2.2.2.1, b.2.2.2.2.1, b.2.2.2.2.2.1, b.2.2.2.2.2.2.1, b.2.2.2.2.2.2.2]) >>= fun r2 =>
 if (8 ≤ r2.length) then
 zz70_l23 (((0 : Int), ((elt (.int .u32) r2 0), ((elt (.int .u32) r2 1), ((elt (.int .u32) r2 2), ((elt (.int .u32) r2 3), ((elt (.int .u32) r2 4), ((elt (.int .u32) r2 5), ((elt (.int .u32) r2 6), (elt (.int .u32) r2 7))))))))), []) >>= fun r3 =>
 some (bytesStr r3) else none else none
noncomputable def zz87 : Str → Option (Str) := fun s =>
 zz70 [s] >>= fun s1 =>
 lib_Hex s1 >>= fun h =>
 if ((([115, 104, 97, 50, 53, 54, 58] : Str).length + h.length) ≤ 9223372036854775807) then
 some (([115, 104, 97, 50, 53, 54, 58] : Str) ++ h) else none
noncomputable def zz80_l6F (self : (Int × (Str × ((List Str) × Int))) → Option (Str)) : (Int × (Str × ((List Str) × Int))) → Option (Str) := fun (x13, out, x11, x12) =>
 if (decide (x13 < x12)) then (if ((0 : Int) ≤ x13) then
 if (x13 < (x11.length : Int)) then
 if (decide (x13 > (0 : Int))) then (if ((out.length + ([44] : Str).length) ≤ 9223372036854775807) then
 if (((out ++ ([44] : Str)).length + ([34] : Str).length) ≤ 9223372036854775807) then
 if ((((out ++ ([44] : Str)) ++ ([34] : Str)).length + (elt .str x11 x13.toNat).length) ≤ 9223372036854775807) then
 if (((((out ++ ([44] : Str)) ++ ([34] : Str)) ++ (elt .str x11 x13.toNat)).length + ([34] : Str).length) ≤ 9223372036854775807) then
 self ((IntKind.wrap .i64 (x13 + (1 : Int))), (((((out ++ ([44] : Str)) ++ ([34] : Str)) ++ (elt .str x11 x13.toNat)) ++ ([34] : Str)), (x11, x12))) else none else none else none else none) else
 if ((out.length + ([34] : Str).length) ≤ 9223372036854775807) then
 if (((out ++ ([34] : Str)).length + (elt .str x11 x13.toNat).length) ≤ 9223372036854775807) then
 if ((((out ++ ([34] : Str)) ++ (elt .str x11 x13.toNat)).length + ([34] : Str).length) ≤ 9223372036854775807) then
 self ((IntKind.wrap .i64 (x13 + (1 : Int))), ((((out ++ ([34] : Str)) ++ (elt .str x11 x13.toNat)) ++ ([34] : Str)), (x11, x12))) else none else none else none else none else none) else
 some out
noncomputable def zz80_l6 : (Int × (Str × ((List Str) × Int))) → Option (Str) := fixO (B := fun _ => Str) zz80_l6F
theorem zz80_l6_eq (q : (Int × (Str × ((List Str) × Int)))) : zz80_l6 q = zz80_l6F zz80_l6 q := fixO_eq (B := fun _ => Str) (fun (x13, out, x11, x12) => (.ite (.ite (.ite (.ite (.ite (.ite (.ite (.ite (.app _) (.const _)) (.const _)) (.const _)) (.const _)) (.ite (.ite (.ite (.app _) (.const _)) (.const _)) (.const _))) (.const _)) (.const _)) (.const _))) q
noncomputable def zz80_l16F (self : ((Int × (Str × ((List (Str × Int)) × Int))) × (Bool × (Str × ((List (Str × Int)) × (List Str))))) → Option ((Str × (Bool × (Str × ((List (Str × Int)) × (List Str))))))) : ((Int × (Str × ((List (Str × Int)) × Int))) × (Bool × (Str × ((List (Str × Int)) × (List Str))))) → Option ((Str × (Bool × (Str × ((List (Str × Int)) × (List Str)))))) := fun ((x34, out, x32, x33), c) =>
 if (decide (x34 < x33)) then (if ((0 : Int) ≤ x34) then
 if (x34 < (x32.length : Int)) then
 if (decide (x34 > (0 : Int))) then (if ((out.length + ([44] : Str).length) ≤ 9223372036854775807) then
 if (((out ++ ([44] : Str)).length + ([123, 34, 100, 105, 103, 101, 115, 116, 34, 58, 34] : Str).length) ≤ 9223372036854775807) then
 if ((((out ++ ([44] : Str)) ++ ([123, 34, 100, 105, 103, 101, 115, 116, 34, 58, 34] : Str)).length + (elt (.pair .str (.int .i64)) x32 x34.toNat).1.length) ≤ 9223372036854775807) then
 if (((((out ++ ([44] : Str)) ++ ([123, 34, 100, 105, 103, 101, 115, 116, 34, 58, 34] : Str)) ++ (elt (.pair .str (.int .i64)) x32 x34.toNat).1).length + ([34, 44, 34, 115, 105, 122, 101, 34, 58] : Str).length) ≤ 9223372036854775807) then
 lib_Itoa (elt (.pair .str (.int .i64)) x32 x34.toNat).2 >>= fun i =>
 if ((((((out ++ ([44] : Str)) ++ ([123, 34, 100, 105, 103, 101, 115, 116, 34, 58, 34] : Str)) ++ (elt (.pair .str (.int .i64)) x32 x34.toNat).1) ++ ([34, 44, 34, 115, 105, 122, 101, 34, 58] : Str)).length + i.length) ≤ 9223372036854775807) then
 if (((((((out ++ ([44] : Str)) ++ ([123, 34, 100, 105, 103, 101, 115, 116, 34, 58, 34] : Str)) ++ (elt (.pair .str (.int .i64)) x32 x34.toNat).1) ++ ([34, 44, 34, 115, 105, 122, 101, 34, 58] : Str)) ++ i).length + ([125] : Str).length) ≤ 9223372036854775807) then
 self (((IntKind.wrap .i64 (x34 + (1 : Int))), (((((((out ++ ([44] : Str)) ++ ([123, 34, 100, 105, 103, 101, 115, 116, 34, 58, 34] : Str)) ++ (elt (.pair .str (.int .i64)) x32 x34.toNat).1) ++ ([34, 44, 34, 115, 105, 122, 101, 34, 58] : Str)) ++ i) ++ ([125] : Str)), (x32, x33))), c) else none else none else none else none else none else none) else
 if ((out.length + ([123, 34, 100, 105, 103, 101, 115, 116, 34, 58, 34] : Str).length) ≤ 9223372036854775807) then
 if (((out ++ ([123, 34, 100, 105, 103, 101, 115, 116, 34, 58, 34] : Str)).length + (elt (.pair .str (.int .i64)) x32 x34.toNat).1.length) ≤ 9223372036854775807) then
 if ((((out ++ ([123, 34, 100, 105, 103, 101, 115, 116, 34, 58, 34] : Str)) ++ (elt (.pair .str (.int .i64)) x32 x34.toNat).1).length + ([34, 44, 34, 115, 105, 122, 101, 34, 58] : Str).length) ≤ 9223372036854775807) then
 lib_Itoa (elt (.pair .str (.int .i64)) x32 x34.toNat).2 >>= fun i =>
 if (((((out ++ ([123, 34, 100, 105, 103, 101, 115, 116, 34, 58, 34] : Str)) ++ (elt (.pair .str (.int .i64)) x32 x34.toNat).1) ++ ([34, 44, 34, 115, 105, 122, 101, 34, 58] : Str)).length + i.length) ≤ 9223372036854775807) then
 if ((((((out ++ ([123, 34, 100, 105, 103, 101, 115, 116, 34, 58, 34] : Str)) ++ (elt (.pair .str (.int .i64)) x32 x34.toNat).1) ++ ([34, 44, 34, 115, 105, 122, 101, 34, 58] : Str)) ++ i).length + ([125] : Str).length) ≤ 9223372036854775807) then
 self (((IntKind.wrap .i64 (x34 + (1 : Int))), ((((((out ++ ([123, 34, 100, 105, 103, 101, 115, 116, 34, 58, 34] : Str)) ++ (elt (.pair .str (.int .i64)) x32 x34.toNat).1) ++ ([34, 44, 34, 115, 105, 122, 101, 34, 58] : Str)) ++ i) ++ ([125] : Str)), (x32, x33))), c) else none else none else none else none else none else none else none) else
 some (out, c)
noncomputable def zz80_l16 : ((Int × (Str × ((List (Str × Int)) × Int))) × (Bool × (Str × ((List (Str × Int)) × (List Str))))) → Option ((Str × (Bool × (Str × ((List (Str × Int)) × (List Str)))))) := fixO (B := fun _ => (Str × (Bool × (Str × ((List (Str × Int)) × (List Str)))))) zz80_l16F
theorem zz80_l16_eq (q : ((Int × (Str × ((List (Str × Int)) × Int))) × (Bool × (Str × ((List (Str × Int)) × (List Str)))))) : zz80_l16 q = zz80_l16F zz80_l16 q := fixO_eq (B := fun _ => (Str × (Bool × (Str × ((List (Str × Int)) × (List Str)))))) (fun ((x34, out, x32, x33), c) => (.ite (.ite (.ite (.ite (.ite (.ite (.ite (.ite (.bind (.const _) fun _ => (.ite (.ite (.app _) (.const _)) (.const _))) (.const _)) (.const _)) (.const _)) (.const _)) (.ite (.ite (.ite (.bind (.const _) fun _ => (.ite (.ite (.app _) (.const _)) (.const _))) (.const _)) (.const _)) (.const _))) (.const _)) (.const _)) (.const _))) q
noncomputable def zz80 : (Bool × (Str × ((List (Str × Int)) × (List Str)))) → Option (Str) := fun m =>
 if m.1 then (zz80_l6 ((0 : Int), ([], (m.2.2.2, (m.2.2.2.length : Int)))) >>= fun r =>
 if ((([123, 34, 107, 105, 100, 115, 34, 58, 91] : Str).length + r.length) ≤ 9223372036854775807) then
 if (((([123, 34, 107, 105, 100, 115, 34, 58, 91] : Str) ++ r).length + ([93, 44, 34, 107, 105, 110, 100, 34, 58, 34, 105, 110, 100, 101, 120, 34, 125] : Str).length) ≤ 9223372036854775807) then
 some ((([123, 34, 107, 105, 100, 115, 34, 58, 91] : Str) ++ r) ++ ([93, 44, 34, 107, 105, 110, 100, 34, 58, 34, 105, 110, 100, 101, 120, 34, 125] : Str)) else none else none) else
 zz80_l16 (((0 : Int), ([], (m.2.2.1, (m.2.2.1.length : Int)))), m) >>= fun r =>
 if ((([123, 34, 99, 111, 110, 102, 105, 103, 34, 58, 34] : Str).length + r.2.2.1.length) ≤ 9223372036854775807) then
 if (((([123, 34, 99, 111, 110, 102, 105, 103, 34, 58, 34] : Str) ++ r.2.2.1).length + ([34, 44, 34, 107, 105, 110, 100, 34, 58, 34, 105, 109, 97, 103, 101, 34, 44, 34, 108, 97, 121, 101, 114, 115, 34, 58, 91] : Str).length) ≤ 9223372036854775807) then
 if ((((([123, 34, 99, 111, 110, 102, 105, 103, 34, 58, 34] : Str) ++ r.2.2.1) ++ ([34, 44, 34, 107, 105, 110, 100, 34, 58, 34, 105, 109, 97, 103, 101, 34, 44, 34, 108, 97, 121, 101, 114, 115, 34, 58, 91] : Str)).length + r.1.length) ≤ 9223372036854775807) then
 if (((((([123, 34, 99, 111, 110, 102, 105, 103, 34, 58, 34] : Str) ++ r.2.2.1) ++ ([34, 44, 34, 107, 105, 110, 100, 34, 58, 34, 105, 109, 97, 103, 101, 34, 44, 34, 108, 97, 121, 101, 114, 115, 34, 58, 91] : Str)) ++ r.1).length + ([93, 125] : Str).length) ≤ 9223372036854775807) then
 some ((((([123, 34, 99, 111, 110, 102, 105, 103, 34, 58, 34] : Str) ++ r.2.2.1) ++ ([34, 44, 34, 107, 105, 110, 100, 34, 58, 34, 105, 109, 97, 103, 101, 34, 44, 34, 108, 97, 121, 101, 114, 115, 34, 58, 91] : Str)) ++ r.1) ++ ([93, 125] : Str)) else none else none else none else none
noncomputable def zz42_l8F (self : ((Int × ((List GVal) × Int)) × ((Bool × Str) × ((Bool × Str) × (GVal × (List (Str × Int)))))) → Option (((Bool × Str) × ((Bool × Str) × (GVal × (List (Str × Int))))))) : ((Int × ((List GVal) × Int)) × ((Bool × Str) × ((Bool × Str) × (GVal × (List (Str × Int)))))) → Option (((Bool × Str) × ((Bool × Str) × (GVal × (List (Str × Int)))))) := fun ((x49, x47, x48), c, c1, c2, c3) =>
 if (decide (x49 < x48)) then (if ((0 : Int) ≤ x49) then
 if (x49 < (x47.length : Int)) then
 text_Get ((elt .val x47 x49.toNat).re, (([100, 105, 103, 101, 115, 116] : Str), (2 : Int))) >>= fun g =>
 text_Get ((elt .val x47 x49.toNat).re, (([115, 105, 122, 101] : Str), (1 : Int))) >>= fun g1 =>
 if (sumOk (c3.length + [(g.1.s, g1.1.n)].length) 24) then
 self (((IntKind.wrap .i64 (x49 + (1 : Int))), (x47, x48)), (c, (c1, (c2.re, (c3 ++ [(g.1.s, g1.1.n)]))))) else none else none else none) else
 some (c, (c1, (c2.re, c3)))
noncomputable def zz42_l8 : ((Int × ((List GVal) × Int)) × ((Bool × Str) × ((Bool × Str) × (GVal × (List (Str × Int)))))) → Option (((Bool × Str) × ((Bool × Str) × (GVal × (List (Str × Int)))))) := fixO (B := fun _ => ((Bool × Str) × ((Bool × Str) × (GVal × (List (Str × Int)))))) zz42_l8F
theorem zz42_l8_eq (q : ((Int × ((List GVal) × Int)) × ((Bool × Str) × ((Bool × Str) × (GVal × (List (Str × Int))))))) : zz42_l8 q = zz42_l8F zz42_l8 q := fixO_eq (B := fun _ => ((Bool × Str) × ((Bool × Str) × (GVal × (List (Str × Int)))))) (fun ((x49, x47, x48), c, c1, c2, c3) => (.ite (.ite (.ite (.bind (.const _) fun _ => (.bind (.const _) fun _ => (.ite (.app _) (.const _)))) (.const _)) (.const _)) (.const _))) q
noncomputable def zz42_l17F (self : ((Int × ((List GVal) × Int)) × ((Bool × Str) × ((Bool × Str) × ((List (Str × Int)) × (List Str))))) → Option (((Bool × Str) × ((Bool × Str) × ((List (Str × Int)) × (List Str)))))) : ((Int × ((List GVal) × Int)) × ((Bool × Str) × ((Bool × Str) × ((List (Str × Int)) × (List Str))))) → Option (((Bool × Str) × ((Bool × Str) × ((List (Str × Int)) × (List Str))))) := fun ((x77, x75, x76), c, c1, c2, c3) =>
 if (decide (x77 < x76)) then (if ((0 : Int) ≤ x77) then
 if (x77 < (x75.length : Int)) then
 if (sumOk (c3.length + [(elt .val x75 x77.toNat).s].length) 16) then
 self (((IntKind.wrap .i64 (x77 + (1 : Int))), (x75, x76)), (c, (c1, (c2, (c3 ++ [(elt .val x75 x77.toNat).s]))))) else none else none else none) else
 some (c1, (c, (c2, c3)))
noncomputable def zz42_l17 : ((Int × ((List GVal) × Int)) × ((Bool × Str) × ((Bool × Str) × ((List (Str × Int)) × (List Str))))) → Option (((Bool × Str) × ((Bool × Str) × ((List (Str × Int)) × (List Str))))) := fixO (B := fun _ => ((Bool × Str) × ((Bool × Str) × ((List (Str × Int)) × (List Str))))) zz42_l17F
theorem zz42_l17_eq (q : ((Int × ((List GVal) × Int)) × ((Bool × Str) × ((Bool × Str) × ((List (Str × Int)) × (List Str)))))) : zz42_l17 q = zz42_l17F zz42_l17 q := fixO_eq (B := fun _ => ((Bool × Str) × ((Bool × Str) × ((List (Str × Int)) × (List Str))))) (fun ((x77, x75, x76), c, c1, c2, c3) => (.ite (.ite (.ite (.ite (.app _) (.const _)) (.const _)) (.const _)) (.const _))) q
noncomputable def zz42 : GVal → Option ((Bool × (Str × ((List (Str × Int)) × (List Str))))) := fun v =>
 text_Get (v.re, (([107, 105, 110, 100] : Str), (2 : Int))) >>= fun g =>
 text_Get (v.re, (([99, 111, 110, 102, 105, 103] : Str), (2 : Int))) >>= fun g1 =>
 text_Get (v.re, (([108, 97, 121, 101, 114, 115] : Str), (3 : Int))) >>= fun g2 =>
 text_Get (v.re, (([107, 105, 100, 115] : Str), (3 : Int))) >>= fun g3 =>
 zz42_l8 (((0 : Int), (g2.1.items, (g2.1.items.length : Int))), (((g.1.s == ([105, 110, 100, 101, 120] : Str)), g1.1.s), ((false, []), (g3.1.re, [])))) >>= fun r =>
 zz42_l17 (((0 : Int), (r.2.2.1.items, (r.2.2.1.items.length : Int))), (r.1, (r.2.1, (r.2.2.2, [])))) >>= fun r1 =>
 some (r1.2.1.1, (r1.2.1.2, r1.2.2))
noncomputable def zz31 : Str → Option (((Bool × (Str × ((List (Str × Int)) × (List Str)))) × Int)) := fun s =>
 zz82 s >>= fun p =>
 if (p.2 != (0 : Int)) then some ((false, ([], ([], []))), p.2) else
 zz42 p.1.re >>= fun r =>
 zz32 r >>= fun p1 =>
 if (p1.2 != (0 : Int)) then some ((false, ([], ([], []))), (8 : Int)) else
 if (p1.1 != s) then some ((false, ([], ([], []))), (8 : Int)) else
 some (r, (0 : Int))
end Go.Plain
