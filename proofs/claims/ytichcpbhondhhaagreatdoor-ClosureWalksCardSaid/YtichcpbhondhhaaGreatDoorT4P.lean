import Derived.Test.YtichcpbhondhhaaGreatDoorBMLib
namespace Go.Plain
open Go.AM
set_option linter.unusedVariables false
noncomputable def zz18 : Str → Option (Str ⊕ (Int × Str)) := fun c =>
 if (c == []) then some (.inl c) else
 if ((0 : Int) < (c.length : Int)) then
 some (.inr ((bt c (0 : Int)), c)) else none
noncomputable def zz19 : (Int × Str) → Option (Str ⊕ Str) := fun (c, c1) =>
 zz18 c1 >>= fun e =>
 Sum.elim (fun e1 => some (.inl e1)) (fun e1 => if (e1.1 != c) then some (.inl e1.2) else
 if ((1 : Int) ≤ (e1.2.length : Int)) then
 if ((e1.2.length : Int) ≤ (e1.2.length : Int)) then
 some (.inr (List.drop 1 (List.take (e1.2.length : Int).toNat e1.2))) else none else none) e
noncomputable def zz20 : Str → Option (Str ⊕ (Str × Str)) := fun c =>
 zz19 ((34 : Int), c) >>= fun y =>
 Sum.elim (fun y1 => some (.inl y1)) (fun y1 => lib_Cut (y1, ([34] : Str)) >>= fun c1 =>
 if (!c1.2.2) then some (.inl y1) else
 some (.inr (c1.1, c1.2.1))) y
noncomputable def zz17_l9F (self : ((Int × (Str × Int)) × (Str × (GVal × GVal))) → Option ((Str × (GVal × GVal)))) : ((Int × (Str × Int)) × (Str × (GVal × GVal))) → Option ((Str × (GVal × GVal))) := fun ((x53, w, x52), c, c1, c2) =>
 if (decide (x53 < x52)) then (if ((0 : Int) ≤ x53) then
 if (x53 < (w.length : Int)) then
 self (((IntKind.wrap .i64 (x53 + (1 : Int))), (w, x52)), (c, ((GVal.mk c1.kind (IntKind.wrap .i64 ((IntKind.wrap .i64 ((10 : Int) * c1.n)) + (IntKind.wrap .i64 (IntKind.wrap .u8 ((bt w x53) - (48 : Int)))))) c1.s c1.items c1.names), c2.re))) else none else none) else
 some (c, (c2.re, c1.re))
noncomputable def zz17_l9 : ((Int × (Str × Int)) × (Str × (GVal × GVal))) → Option ((Str × (GVal × GVal))) := fixO (B := fun _ => (Str × (GVal × GVal))) zz17_l9F
theorem zz17_l9_eq (q : ((Int × (Str × Int)) × (Str × (GVal × GVal)))) : zz17_l9 q = zz17_l9F zz17_l9 q := fixO_eq (B := fun _ => (Str × (GVal × GVal))) (fun ((x53, w, x52), c, c1, c2) => (.ite (.ite (.ite (.app _) (.const _)) (.const _)) (.const _))) q
noncomputable def zz17 : Str → Option (Str ⊕ (GVal × Str)) := fun c =>
 lib_TrimLeft (c, ([48, 49, 50, 51, 52, 53, 54, 55, 56, 57] : Str)) >>= fun t =>
 if ((0 : Int) ≤ (IntKind.wrap .i64 ((c.length : Int) - (t.length : Int)))) then
 if ((IntKind.wrap .i64 ((c.length : Int) - (t.length : Int))) ≤ (c.length : Int)) then
 if ((0 : Int) ≤ (IntKind.wrap .i64 ((c.length : Int) - (t.length : Int)))) then
 if ((IntKind.wrap .i64 ((c.length : Int) - (t.length : Int))) ≤ (c.length : Int)) then
 if ((c.length : Int) ≤ (c.length : Int)) then
 if ((IntKind.wrap .i64 ((c.length : Int) - (t.length : Int))) == (0 : Int)) then some (.inl (List.drop (IntKind.wrap .i64 ((c.length : Int) - (t.length : Int))).toNat (List.take (c.length : Int).toNat c))) else
 if (decide ((IntKind.wrap .i64 ((c.length : Int) - (t.length : Int))) > (13 : Int))) then some (.inl (List.drop (IntKind.wrap .i64 ((c.length : Int) - (t.length : Int))).toNat (List.take (c.length : Int).toNat c))) else
 if (decide ((IntKind.wrap .i64 ((c.length : Int) - (t.length : Int))) > (1 : Int))) then (if ((0 : Int) < ((List.take (IntKind.wrap .i64 ((c.length : Int) - (t.length : Int))).toNat c).length : Int)) then
 if ((bt (List.take (IntKind.wrap .i64 ((c.length : Int) - (t.length : Int))).toNat c) (0 : Int)) == (48 : Int)) then some (.inl (List.drop (IntKind.wrap .i64 ((c.length : Int) - (t.length : Int))).toNat (List.take (c.length : Int).toNat c))) else
 zz17_l9 (((0 : Int), ((List.take (IntKind.wrap .i64 ((c.length : Int) - (t.length : Int))).toNat c), (IntKind.wrap .i64 ((c.length : Int) - (t.length : Int))))), ((List.drop (IntKind.wrap .i64 ((c.length : Int) - (t.length : Int))).toNat (List.take (c.length : Int).toNat c)), ((GVal.mk (1 : Int) (0 : Int) [] [] []), (GVal.mk (0 : Int) (0 : Int) [] [] [])))) >>= fun r =>
 some (.inr (r.2.2.re, r.1)) else none) else
 zz17_l9 (((0 : Int), ((List.take (IntKind.wrap .i64 ((c.length : Int) - (t.length : Int))).toNat c), (IntKind.wrap .i64 ((c.length : Int) - (t.length : Int))))), ((List.drop (IntKind.wrap .i64 ((c.length : Int) - (t.length : Int))).toNat (List.take (c.length : Int).toNat c)), ((GVal.mk (1 : Int) (0 : Int) [] [] []), (GVal.mk (0 : Int) (0 : Int) [] [] [])))) >>= fun r =>
 some (.inr (r.2.2.re, r.1)) else none else none else none else none else none
abbrev zz16GA := (Int × Str) ⊕ (((Int × (Int × Str)) × (Int × Int)) × Str) ⊕ ((Int × Int) × (Str × ((Int × (Int × Str)) × (GVal × ((List GVal) × (List Str))))))
abbrev zz16GB : zz16GA → Type
 | (.inl _) => Str ⊕ (GVal × Str)
 | (.inr (.inl _)) => Str ⊕ (GVal × Str)
 | (.inr (.inr _)) => Str ⊕ (Int × (Str × (GVal × ((Int × (Int × Str)) × ((List GVal) × (List Str))))))
noncomputable def zz16F (zz16 : (Int × Str) → Option (Str ⊕ (GVal × Str))) (zz15 : (((Int × (Int × Str)) × (Int × Int)) × Str) → Option (Str ⊕ (GVal × Str))) (zz15_l3 : ((Int × Int) × (Str × ((Int × (Int × Str)) × (GVal × ((List GVal) × (List Str)))))) → Option (Str ⊕ (Int × (Str × (GVal × ((Int × (Int × Str)) × ((List GVal) × (List Str)))))))) : (Int × Str) → Option (Str ⊕ (GVal × Str)) := fun (deep, c) =>
 if (deep == (0 : Int)) then some (.inl c) else
 zz18 c >>= fun e =>
 Sum.elim (fun e1 => some (.inl e1)) (fun e1 => if (e1.1 == (34 : Int)) then (zz20 e1.2 >>= fun e2 =>
 Sum.elim (fun e3 => some (.inl e3)) (fun e3 => some (.inr ((GVal.mk (2 : Int) (0 : Int) e3.1 [] []), e3.2))) e2) else
 if (e1.1 == (91 : Int)) then (zz15 ((((3 : Int), ((0 : Int), [])), ((93 : Int), deep)), e1.2) >>= fun t =>
 Sum.elim (fun t1 => some (.inl t1)) (fun t1 => some (.inr (t1.1.re, t1.2))) t) else
 if (e1.1 == (123 : Int)) then (zz15 ((((4 : Int), ((0 : Int), [])), ((125 : Int), deep)), e1.2) >>= fun t =>
 Sum.elim (fun t1 => some (.inl t1)) (fun t1 => some (.inr (t1.1.re, t1.2))) t) else
 zz17 e1.2 >>= fun e2 =>
 Sum.elim (fun e3 => some (.inl e3)) (fun e3 => some (.inr (e3.1.re, e3.2))) e2) e
noncomputable def zz15F (zz16 : (Int × Str) → Option (Str ⊕ (GVal × Str))) (zz15 : (((Int × (Int × Str)) × (Int × Int)) × Str) → Option (Str ⊕ (GVal × Str))) (zz15_l3 : ((Int × Int) × (Str × ((Int × (Int × Str)) × (GVal × ((List GVal) × (List Str)))))) → Option (Str ⊕ (Int × (Str × (GVal × ((Int × (Int × Str)) × ((List GVal) × (List Str)))))))) : (((Int × (Int × Str)) × (Int × Int)) × Str) → Option (Str ⊕ (GVal × Str)) := fun ((v, end1, deep), c) =>
 if ((1 : Int) ≤ (c.length : Int)) then
 if ((c.length : Int) ≤ (c.length : Int)) then
 zz15_l3 ((deep, end1), ((List.drop 1 (List.take (c.length : Int).toNat c)), (v, ((GVal.mk (0 : Int) (0 : Int) [] [] []), ([], []))))) >>= fun r =>
 Sum.elim (fun r1 => some (.inl r1)) (fun r1 => zz19 (r1.1, r1.2.1) >>= fun y =>
 Sum.elim (fun y1 => some (.inl y1)) (fun y1 => some (.inr ((GVal.mk r1.2.2.2.1.1 r1.2.2.2.1.2.1 r1.2.2.2.1.2.2 r1.2.2.2.2.1 r1.2.2.2.2.2), y1))) y) r else none else none
noncomputable def zz15_l3F (zz16 : (Int × Str) → Option (Str ⊕ (GVal × Str))) (zz15 : (((Int × (Int × Str)) × (Int × Int)) × Str) → Option (Str ⊕ (GVal × Str))) (zz15_l3 : ((Int × Int) × (Str × ((Int × (Int × Str)) × (GVal × ((List GVal) × (List Str)))))) → Option (Str ⊕ (Int × (Str × (GVal × ((Int × (Int × Str)) × ((List GVal) × (List Str)))))))) : ((Int × Int) × (Str × ((Int × (Int × Str)) × (GVal × ((List GVal) × (List Str)))))) → Option (Str ⊕ (Int × (Str × (GVal × ((Int × (Int × Str)) × ((List GVal) × (List Str))))))) := fun ((deep, end1), c, c1, c2, c3, c4) =>
 zz18 c >>= fun e =>
 Sum.elim (fun e1 => some (.inl e1)) (fun e1 => if (e1.1 != end1) then (if (decide ((c3.length : Int) > (0 : Int))) then (zz19 ((44 : Int), e1.2) >>= fun y =>
 Sum.elim (fun y1 => some (.inl y1)) (fun y1 => if (c1.1 == (4 : Int)) then (zz20 y1 >>= fun e2 =>
 Sum.elim (fun e3 => some (.inl e3)) (fun e3 => if (sumOk (c4.length + [e3.1].length) 16) then
 zz19 ((58 : Int), e3.2) >>= fun y2 =>
 Sum.elim (fun y3 => some (.inl y3)) (fun y3 => zz16 ((IntKind.wrap .i64 (deep - (1 : Int))), y3) >>= fun e4 =>
 Sum.elim (fun e5 => some (.inl e5)) (fun e5 => if (sumOk (c3.length + [e5.1.re].length) 80) then
 if (decide (((c3 ++ [e5.1.re]).length : Int) > (16 : Int))) then some (.inl e5.2) else
 zz15_l3 ((deep, end1), (e5.2, (c1, (c2.re, ((c3 ++ [e5.1.re]), (c4 ++ [e3.1])))))) else none) e4) y2 else none) e2) else
 zz16 ((IntKind.wrap .i64 (deep - (1 : Int))), y1) >>= fun e2 =>
 Sum.elim (fun e3 => some (.inl e3)) (fun e3 => if (sumOk (c3.length + [e3.1.re].length) 80) then
 if (decide (((c3 ++ [e3.1.re]).length : Int) > (16 : Int))) then some (.inl e3.2) else
 zz15_l3 ((deep, end1), (e3.2, (c1, (c2.re, ((c3 ++ [e3.1.re]), c4))))) else none) e2) y) else
 if (c1.1 == (4 : Int)) then (zz20 e1.2 >>= fun e2 =>
 Sum.elim (fun e3 => some (.inl e3)) (fun e3 => if (sumOk (c4.length + [e3.1].length) 16) then
 zz19 ((58 : Int), e3.2) >>= fun y =>
 Sum.elim (fun y1 => some (.inl y1)) (fun y1 => zz16 ((IntKind.wrap .i64 (deep - (1 : Int))), y1) >>= fun e4 =>
 Sum.elim (fun e5 => some (.inl e5)) (fun e5 => if (sumOk (c3.length + [e5.1.re].length) 80) then
 if (decide (((c3 ++ [e5.1.re]).length : Int) > (16 : Int))) then some (.inl e5.2) else
 zz15_l3 ((deep, end1), (e5.2, (c1, (c2.re, ((c3 ++ [e5.1.re]), (c4 ++ [e3.1])))))) else none) e4) y else none) e2) else
 zz16 ((IntKind.wrap .i64 (deep - (1 : Int))), e1.2) >>= fun e2 =>
 Sum.elim (fun e3 => some (.inl e3)) (fun e3 => if (sumOk (c3.length + [e3.1.re].length) 80) then
 if (decide (((c3 ++ [e3.1.re]).length : Int) > (16 : Int))) then some (.inl e3.2) else
 zz15_l3 ((deep, end1), (e3.2, (c1, (c2.re, ((c3 ++ [e3.1.re]), c4))))) else none) e2) else
 some (.inr (end1, (e1.2, (c2.re, (c1, (c3, c4))))))) e
noncomputable def zz16GF (u : ∀ a, Option (zz16GB a)) : ∀ a, Option (zz16GB a)
 | (.inl q) => zz16F (fun q => u (.inl q)) (fun q => u (.inr (.inl q))) (fun q => u (.inr (.inr q))) q
 | (.inr (.inl q)) => zz15F (fun q => u (.inl q)) (fun q => u (.inr (.inl q))) (fun q => u (.inr (.inr q))) q
 | (.inr (.inr q)) => zz15_l3F (fun q => u (.inl q)) (fun q => u (.inr (.inl q))) (fun q => u (.inr (.inr q))) q
noncomputable def zz16 (q : (Int × Str)) : Option (Str ⊕ (GVal × Str)) := fixO zz16GF (.inl q)
noncomputable def zz15 (q : (((Int × (Int × Str)) × (Int × Int)) × Str)) : Option (Str ⊕ (GVal × Str)) := fixO zz16GF (.inr (.inl q))
noncomputable def zz15_l3 (q : ((Int × Int) × (Str × ((Int × (Int × Str)) × (GVal × ((List GVal) × (List Str))))))) : Option (Str ⊕ (Int × (Str × (GVal × ((Int × (Int × Str)) × ((List GVal) × (List Str))))))) := fixO zz16GF (.inr (.inr q))
theorem zz16Gc : ∀ a, Cont fun u => zz16GF u a
 | (.inl (deep, c)) => by unfold zz16GF zz16F; exact (.ite (.const _) (.bind (.const _) fun _ => (.sum (fun _ => (.const _)) (fun _ => (.ite (.const _) (.ite (.bind (.app _) fun _ => (.const _)) (.ite (.bind (.app _) fun _ => (.const _)) (.const _))))))))
 | (.inr (.inl ((v, end1, deep), c))) => by unfold zz16GF zz15F; exact (.ite (.ite (.bind (.app _) fun _ => (.const _)) (.const _)) (.const _))
 | (.inr (.inr ((deep, end1), c, c1, c2, c3, c4))) => by unfold zz16GF zz15_l3F; exact (.bind (.const _) fun _ => (.sum (fun _ => (.const _)) (fun _ => (.ite (.ite (.bind (.const _) fun _ => (.sum (fun _ => (.const _)) (fun _ => (.ite (.bind (.const _) fun _ => (.sum (fun _ => (.const _)) (fun _ => (.ite (.bind (.const _) fun _ => (.sum (fun _ => (.const _)) (fun _ => (.bind (.app _) fun _ => (.sum (fun _ => (.const _)) (fun _ => (.ite (.ite (.const _) (.app _)) (.const _)))))))) (.const _))))) (.bind (.app _) fun _ => (.sum (fun _ => (.const _)) (fun _ => (.ite (.ite (.const _) (.app _)) (.const _))))))))) (.ite (.bind (.const _) fun _ => (.sum (fun _ => (.const _)) (fun _ => (.ite (.bind (.const _) fun _ => (.sum (fun _ => (.const _)) (fun _ => (.bind (.app _) fun _ => (.sum (fun _ => (.const _)) (fun _ => (.ite (.ite (.const _) (.app _)) (.const _)))))))) (.const _))))) (.bind (.app _) fun _ => (.sum (fun _ => (.const _)) (fun _ => (.ite (.ite (.const _) (.app _)) (.const _))))))) (.const _)))))
theorem zz16_eq (q : (Int × Str)) : zz16 q = zz16F zz16 zz15 zz15_l3 q := fixO_eq zz16Gc (.inl q)
theorem zz15_eq (q : (((Int × (Int × Str)) × (Int × Int)) × Str)) : zz15 q = zz15F zz16 zz15 zz15_l3 q := fixO_eq zz16Gc (.inr (.inl q))
theorem zz15_l3_eq (q : ((Int × Int) × (Str × ((Int × (Int × Str)) × (GVal × ((List GVal) × (List Str))))))) : zz15_l3 q = zz15_l3F zz16 zz15 zz15_l3 q := fixO_eq zz16Gc (.inr (.inr q))
noncomputable def zz68 : Int → Option (Bool) := fun c =>
 if (decide (c < (32 : Int))) then some true else
 if (decide (c > (126 : Int))) then some true else
 if (c == (34 : Int)) then some true else
 some (c == (92 : Int))
noncomputable def zz9_l3F (self : (Int × ((List Int) × Int)) → Option (Int ⊕ Unit)) : (Int × ((List Int) × Int)) → Option (Int ⊕ Unit) := fun (x8, s, x7) =>
 if (decide (x8 < x7)) then (if ((0 : Int) ≤ x8) then
 if (x8 < (s.length : Int)) then
 zz68 (elt (.int .u8) s x8.toNat) >>= fun w =>
 if w then some (.inl x8) else
 self ((IntKind.wrap .i64 (x8 + (1 : Int))), (s, x7)) else none else none) else
 some (.inr ())
noncomputable def zz9_l3 : (Int × ((List Int) × Int)) → Option (Int ⊕ Unit) := fixO (B := fun _ => Int ⊕ Unit) zz9_l3F
theorem zz9_l3_eq (q : (Int × ((List Int) × Int))) : zz9_l3 q = zz9_l3F zz9_l3 q := fixO_eq (B := fun _ => Int ⊕ Unit) (fun (x8, s, x7) => (.ite (.ite (.ite (.bind (.const _) fun _ => (.ite (.const _) (.app _))) (.const _)) (.const _)) (.const _))) q
noncomputable def zz9 : (List Int) → Option (Int) := fun s =>
 zz9_l3 ((0 : Int), (s, (s.length : Int))) >>= fun r =>
 Sum.elim (fun r1 => some r1) (fun r1 => some (-1 : Int)) r
noncomputable def zz5 : (List Int) → Option (Bool) := fun s =>
 zz9 s >>= fun h =>
 some (decide (h ≥ (0 : Int)))
noncomputable def zz95 : Str → Option (Bool) := fun s =>
 if (decide ((s.length : Int) ≤ (200 : Int))) then (zz5 (strBytes s) >>= fun h =>
 some (!h)) else
 some false
noncomputable def zz86_l3F (self : (Int × ((List Str) × ((List Str) × (Int × Int)))) → Option (Bool ⊕ (Int × (List Str)))) : (Int × ((List Str) × ((List Str) × (Int × Int)))) → Option (Bool ⊕ (Int × (List Str))) := fun (x9, l, x7, many, x8) =>
 if (decide (x9 < x8)) then (if ((0 : Int) ≤ x9) then
 if (x9 < (x7.length : Int)) then
 zz95 (elt .str x7 x9.toNat) >>= fun w =>
 if (!w) then some (.inl false) else
 if (decide (x9 > (0 : Int))) then (if ((0 : Int) ≤ (IntKind.wrap .i64 (x9 - (1 : Int)))) then
 if ((IntKind.wrap .i64 (x9 - (1 : Int))) < (l.length : Int)) then
 if (!(Op.bytesLess (elt .str l (IntKind.wrap .i64 (x9 - (1 : Int))).toNat) (elt .str x7 x9.toNat))) then some (.inl false) else
 self ((IntKind.wrap .i64 (x9 + (1 : Int))), (l, (x7, (many, x8)))) else none else none) else
 self ((IntKind.wrap .i64 (x9 + (1 : Int))), (l, (x7, (many, x8)))) else none else none) else
 some (.inr (many, l))
noncomputable def zz86_l3 : (Int × ((List Str) × ((List Str) × (Int × Int)))) → Option (Bool ⊕ (Int × (List Str))) := fixO (B := fun _ => Bool ⊕ (Int × (List Str))) zz86_l3F
theorem zz86_l3_eq (q : (Int × ((List Str) × ((List Str) × (Int × Int))))) : zz86_l3 q = zz86_l3F zz86_l3 q := fixO_eq (B := fun _ => Bool ⊕ (Int × (List Str))) (fun (x9, l, x7, many, x8) => (.ite (.ite (.ite (.bind (.const _) fun _ => (.ite (.const _) (.ite (.ite (.ite (.ite (.const _) (.app _)) (.const _)) (.const _)) (.app _)))) (.const _)) (.const _)) (.const _))) q
noncomputable def zz86 : ((List Str) × Int) → Option (Bool) := fun (l, many) =>
 zz86_l3 ((0 : Int), (l, (l, (many, (l.length : Int))))) >>= fun r =>
 Sum.elim (fun r1 => some r1) (fun r1 => some ((r1.2.length : Int) == r1.1)) r
abbrev text_mayGA := (GVal × Int) ⊕ ((List GVal) × Int) ⊕ ((List GVal) × Int) ⊕ ((Int × ((List GVal) × Int)) × Int) ⊕ (GVal × Int)
abbrev text_mayGB : text_mayGA → Type
 | (.inl _) => Bool
 | (.inr (.inl _)) => (Bool × Int)
 | (.inr (.inr (.inl _))) => (Int × Int)
 | (.inr (.inr (.inr (.inl _)))) => (Int × Int) ⊕ Int
 | (.inr (.inr (.inr (.inr _)))) => (Bool × Int)
noncomputable def text_mayF (text_may : (GVal × Int) → Option (Bool)) (zz1 : ((List GVal) × Int) → Option ((Bool × Int))) (zz4 : ((List GVal) × Int) → Option ((Int × Int))) (zz4_l3 : ((Int × ((List GVal) × Int)) × Int) → Option ((Int × Int) ⊕ Int)) (zz38 : (GVal × Int) → Option ((Bool × Int))) : (GVal × Int) → Option (Bool) := fun (v, deep) =>
 if (deep == (0 : Int)) then some false else
 if (decide ((v.items.length : Int) > (16 : Int))) then some false else
 if ((v.items.length : Int) == (0 : Int)) then (if (v.kind == (1 : Int)) then (if ((v.names.length : Int) == (0 : Int)) then (if (v.s == []) then (if (decide (v.n ≥ (0 : Int))) then some (decide (v.n ≤ (1099511627776 : Int))) else
 some false) else
 some false) else
 some false) else
 if (v.kind == (2 : Int)) then (if ((v.names.length : Int) == (0 : Int)) then (if (v.n == (0 : Int)) then (zz95 v.s >>= fun w =>
 some w) else
 some false) else
 some false) else
 if (v.kind == (3 : Int)) then (if (v.kind == (3 : Int)) then (if (v.kind == (3 : Int)) then (if (decide ((v.names.length : Int) > (0 : Int))) then some false else
 if (v.kind == (4 : Int)) then (zz86 (v.names, (v.items.length : Int)) >>= fun n =>
 if (!n) then some false else
 if (v.n != (0 : Int)) then some false else
 if (v.s != []) then some false else
 zz1 (v.items, deep) >>= fun v1 =>
 some (!v1.1)) else
 if (v.n != (0 : Int)) then some false else
 if (v.s != []) then some false else
 zz1 (v.items, deep) >>= fun v1 =>
 some (!v1.1)) else
 if (v.kind == (4 : Int)) then (zz86 (v.names, (v.items.length : Int)) >>= fun n =>
 if (!n) then some false else
 if (v.n != (0 : Int)) then some false else
 if (v.s != []) then some false else
 zz1 (v.items, deep) >>= fun v1 =>
 some (!v1.1)) else
 if (v.n != (0 : Int)) then some false else
 if (v.s != []) then some false else
 zz1 (v.items, deep) >>= fun v1 =>
 some (!v1.1)) else
 some false) else
 if (v.kind == (4 : Int)) then (if (v.kind == (3 : Int)) then (if (decide ((v.names.length : Int) > (0 : Int))) then some false else
 if (v.kind == (4 : Int)) then (zz86 (v.names, (v.items.length : Int)) >>= fun n =>
 if (!n) then some false else
 if (v.n != (0 : Int)) then some false else
 if (v.s != []) then some false else
 zz1 (v.items, deep) >>= fun v1 =>
 some (!v1.1)) else
 if (v.n != (0 : Int)) then some false else
 if (v.s != []) then some false else
 zz1 (v.items, deep) >>= fun v1 =>
 some (!v1.1)) else
 if (v.kind == (4 : Int)) then (zz86 (v.names, (v.items.length : Int)) >>= fun n =>
 if (!n) then some false else
 if (v.n != (0 : Int)) then some false else
 if (v.s != []) then some false else
 zz1 (v.items, deep) >>= fun v1 =>
 some (!v1.1)) else
 if (v.n != (0 : Int)) then some false else
 if (v.s != []) then some false else
 zz1 (v.items, deep) >>= fun v1 =>
 some (!v1.1)) else
 some false) else
 if (v.kind == (1 : Int)) then some false else
 if (v.kind == (2 : Int)) then some false else
 if (v.kind == (3 : Int)) then (if (v.kind == (3 : Int)) then (if (v.kind == (3 : Int)) then (if (decide ((v.names.length : Int) > (0 : Int))) then some false else
 if (v.kind == (4 : Int)) then (zz86 (v.names, (v.items.length : Int)) >>= fun n =>
 if (!n) then some false else
 if (v.n != (0 : Int)) then some false else
 if (v.s != []) then some false else
 zz1 (v.items, deep) >>= fun v1 =>
 some (!v1.1)) else
 if (v.n != (0 : Int)) then some false else
 if (v.s != []) then some false else
 zz1 (v.items, deep) >>= fun v1 =>
 some (!v1.1)) else
 if (v.kind == (4 : Int)) then (zz86 (v.names, (v.items.length : Int)) >>= fun n =>
 if (!n) then some false else
 if (v.n != (0 : Int)) then some false else
 if (v.s != []) then some false else
 zz1 (v.items, deep) >>= fun v1 =>
 some (!v1.1)) else
 if (v.n != (0 : Int)) then some false else
 if (v.s != []) then some false else
 zz1 (v.items, deep) >>= fun v1 =>
 some (!v1.1)) else
 some false) else
 if (v.kind == (4 : Int)) then (if (v.kind == (3 : Int)) then (if (decide ((v.names.length : Int) > (0 : Int))) then some false else
 if (v.kind == (4 : Int)) then (zz86 (v.names, (v.items.length : Int)) >>= fun n =>
 if (!n) then some false else
 if (v.n != (0 : Int)) then some false else
 if (v.s != []) then some false else
 zz1 (v.items, deep) >>= fun v1 =>
 some (!v1.1)) else
 if (v.n != (0 : Int)) then some false else
 if (v.s != []) then some false else
 zz1 (v.items, deep) >>= fun v1 =>
 some (!v1.1)) else
 if (v.kind == (4 : Int)) then (zz86 (v.names, (v.items.length : Int)) >>= fun n =>
 if (!n) then some false else
 if (v.n != (0 : Int)) then some false else
 if (v.s != []) then some false else
 zz1 (v.items, deep) >>= fun v1 =>
 some (!v1.1)) else
 if (v.n != (0 : Int)) then some false else
 if (v.s != []) then some false else
 zz1 (v.items, deep) >>= fun v1 =>
 some (!v1.1)) else
 some false
noncomputable def zz1F (text_may : (GVal × Int) → Option (Bool)) (zz1 : ((List GVal) × Int) → Option ((Bool × Int))) (zz4 : ((List GVal) × Int) → Option ((Int × Int))) (zz4_l3 : ((Int × ((List GVal) × Int)) × Int) → Option ((Int × Int) ⊕ Int)) (zz38 : (GVal × Int) → Option ((Bool × Int))) : ((List GVal) × Int) → Option ((Bool × Int)) := fun (s, c) =>
 zz4 (s, c) >>= fun v =>
 some ((decide (v.1 ≥ (0 : Int))), v.2)
noncomputable def zz4F (text_may : (GVal × Int) → Option (Bool)) (zz1 : ((List GVal) × Int) → Option ((Bool × Int))) (zz4 : ((List GVal) × Int) → Option ((Int × Int))) (zz4_l3 : ((Int × ((List GVal) × Int)) × Int) → Option ((Int × Int) ⊕ Int)) (zz38 : (GVal × Int) → Option ((Bool × Int))) : ((List GVal) × Int) → Option ((Int × Int)) := fun (s, c) =>
 zz4_l3 (((0 : Int), (s, (s.length : Int))), c) >>= fun r =>
 Sum.elim (fun r1 => some r1) (fun r1 => some ((-1 : Int), r1)) r
noncomputable def zz4_l3F (text_may : (GVal × Int) → Option (Bool)) (zz1 : ((List GVal) × Int) → Option ((Bool × Int))) (zz4 : ((List GVal) × Int) → Option ((Int × Int))) (zz4_l3 : ((Int × ((List GVal) × Int)) × Int) → Option ((Int × Int) ⊕ Int)) (zz38 : (GVal × Int) → Option ((Bool × Int))) : ((Int × ((List GVal) × Int)) × Int) → Option ((Int × Int) ⊕ Int) := fun ((x8, s, x7), c) =>
 if (decide (x8 < x7)) then (if ((0 : Int) ≤ x8) then
 if (x8 < (s.length : Int)) then
 zz38 ((elt .val s x8.toNat).re, c) >>= fun m =>
 if m.1 then some (.inl (x8, m.2)) else
 zz4_l3 (((IntKind.wrap .i64 (x8 + (1 : Int))), (s, x7)), m.2) else none else none) else
 some (.inr c)
noncomputable def zz38F (text_may : (GVal × Int) → Option (Bool)) (zz1 : ((List GVal) × Int) → Option ((Bool × Int))) (zz4 : ((List GVal) × Int) → Option ((Int × Int))) (zz4_l3 : ((Int × ((List GVal) × Int)) × Int) → Option ((Int × Int) ⊕ Int)) (zz38 : (GVal × Int) → Option ((Bool × Int))) : (GVal × Int) → Option ((Bool × Int)) := fun (x1, c) =>
 text_may (x1.re, (IntKind.wrap .i64 (c - (1 : Int)))) >>= fun m =>
 some ((!m), c)
noncomputable def text_mayGF (u : ∀ a, Option (text_mayGB a)) : ∀ a, Option (text_mayGB a)
 | (.inl q) => text_mayF (fun q => u (.inl q)) (fun q => u (.inr (.inl q))) (fun q => u (.inr (.inr (.inl q)))) (fun q => u (.inr (.inr (.inr (.inl q))))) (fun q => u (.inr (.inr (.inr (.inr q))))) q
 | (.inr (.inl q)) => zz1F (fun q => u (.inl q)) (fun q => u (.inr (.inl q))) (fun q => u (.inr (.inr (.inl q)))) (fun q => u (.inr (.inr (.inr (.inl q))))) (fun q => u (.inr (.inr (.inr (.inr q))))) q
 | (.inr (.inr (.inl q))) => zz4F (fun q => u (.inl q)) (fun q => u (.inr (.inl q))) (fun q => u (.inr (.inr (.inl q)))) (fun q => u (.inr (.inr (.inr (.inl q))))) (fun q => u (.inr (.inr (.inr (.inr q))))) q
 | (.inr (.inr (.inr (.inl q)))) => zz4_l3F (fun q => u (.inl q)) (fun q => u (.inr (.inl q))) (fun q => u (.inr (.inr (.inl q)))) (fun q => u (.inr (.inr (.inr (.inl q))))) (fun q => u (.inr (.inr (.inr (.inr q))))) q
 | (.inr (.inr (.inr (.inr q)))) => zz38F (fun q => u (.inl q)) (fun q => u (.inr (.inl q))) (fun q => u (.inr (.inr (.inl q)))) (fun q => u (.inr (.inr (.inr (.inl q))))) (fun q => u (.inr (.inr (.inr (.inr q))))) q
noncomputable def text_may (q : (GVal × Int)) : Option (Bool) := fixO text_mayGF (.inl q)
noncomputable def zz1 (q : ((List GVal) × Int)) : Option ((Bool × Int)) := fixO text_mayGF (.inr (.inl q))
noncomputable def zz4 (q : ((List GVal) × Int)) : Option ((Int × Int)) := fixO text_mayGF (.inr (.inr (.inl q)))
noncomputable def zz4_l3 (q : ((Int × ((List GVal) × Int)) × Int)) : Option ((Int × Int) ⊕ Int) := fixO text_mayGF (.inr (.inr (.inr (.inl q))))
noncomputable def zz38 (q : (GVal × Int)) : Option ((Bool × Int)) := fixO text_mayGF (.inr (.inr (.inr (.inr q))))
theorem text_mayGc : ∀ a, Cont fun u => text_mayGF u a
 | (.inl (v, deep)) => by unfold text_mayGF text_mayF; exact (.ite (.const _) (.ite (.const _) (.ite (.ite (.const _) (.ite (.const _) (.ite (.ite (.ite (.ite (.const _) (.ite (.bind (.const _) fun _ => (.ite (.const _) (.ite (.const _) (.ite (.const _) (.bind (.app _) fun _ => (.const _)))))) (.ite (.const _) (.ite (.const _) (.bind (.app _) fun _ => (.const _)))))) (.ite (.bind (.const _) fun _ => (.ite (.const _) (.ite (.const _) (.ite (.const _) (.bind (.app _) fun _ => (.const _)))))) (.ite (.const _) (.ite (.const _) (.bind (.app _) fun _ => (.const _)))))) (.const _)) (.ite (.ite (.ite (.const _) (.ite (.bind (.const _) fun _ => (.ite (.const _) (.ite (.const _) (.ite (.const _) (.bind (.app _) fun _ => (.const _)))))) (.ite (.const _) (.ite (.const _) (.bind (.app _) fun _ => (.const _)))))) (.ite (.bind (.const _) fun _ => (.ite (.const _) (.ite (.const _) (.ite (.const _) (.bind (.app _) fun _ => (.const _)))))) (.ite (.const _) (.ite (.const _) (.bind (.app _) fun _ => (.const _)))))) (.const _))))) (.ite (.const _) (.ite (.const _) (.ite (.ite (.ite (.ite (.const _) (.ite (.bind (.const _) fun _ => (.ite (.const _) (.ite (.const _) (.ite (.const _) (.bind (.app _) fun _ => (.const _)))))) (.ite (.const _) (.ite (.const _) (.bind (.app _) fun _ => (.const _)))))) (.ite (.bind (.const _) fun _ => (.ite (.const _) (.ite (.const _) (.ite (.const _) (.bind (.app _) fun _ => (.const _)))))) (.ite (.const _) (.ite (.const _) (.bind (.app _) fun _ => (.const _)))))) (.const _)) (.ite (.ite (.ite (.const _) (.ite (.bind (.const _) fun _ => (.ite (.const _) (.ite (.const _) (.ite (.const _) (.bind (.app _) fun _ => (.const _)))))) (.ite (.const _) (.ite (.const _) (.bind (.app _) fun _ => (.const _)))))) (.ite (.bind (.const _) fun _ => (.ite (.const _) (.ite (.const _) (.ite (.const _) (.bind (.app _) fun _ => (.const _)))))) (.ite (.const _) (.ite (.const _) (.bind (.app _) fun _ => (.const _)))))) (.const _))))))))
 | (.inr (.inl (s, c))) => by unfold text_mayGF zz1F; exact (.bind (.app _) fun _ => (.const _))
 | (.inr (.inr (.inl (s, c)))) => by unfold text_mayGF zz4F; exact (.bind (.app _) fun _ => (.const _))
 | (.inr (.inr (.inr (.inl ((x8, s, x7), c))))) => by unfold text_mayGF zz4_l3F; exact (.ite (.ite (.ite (.bind (.app _) fun _ => (.ite (.const _) (.app _))) (.const _)) (.const _)) (.const _))
 | (.inr (.inr (.inr (.inr (x1, c))))) => by unfold text_mayGF zz38F; exact (.bind (.app _) fun _ => (.const _))
theorem text_may_eq (q : (GVal × Int)) : text_may q = text_mayF text_may zz1 zz4 zz4_l3 zz38 q := fixO_eq text_mayGc (.inl q)
theorem zz1_eq (q : ((List GVal) × Int)) : zz1 q = zz1F text_may zz1 zz4 zz4_l3 zz38 q := fixO_eq text_mayGc (.inr (.inl q))
theorem zz4_eq (q : ((List GVal) × Int)) : zz4 q = zz4F text_may zz1 zz4 zz4_l3 zz38 q := fixO_eq text_mayGc (.inr (.inr (.inl q)))
theorem zz4_l3_eq (q : ((Int × ((List GVal) × Int)) × Int)) : zz4_l3 q = zz4_l3F text_may zz1 zz4 zz4_l3 zz38 q := fixO_eq text_mayGc (.inr (.inr (.inr (.inl q))))
theorem zz38_eq (q : (GVal × Int)) : zz38 q = zz38F text_may zz1 zz4 zz4_l3 zz38 q := fixO_eq text_mayGc (.inr (.inr (.inr (.inr q))))
noncomputable def zz84 : GVal → Option (Bool) := fun v =>
 text_may (v.re, (6 : Int)) >>= fun m =>
 some m
noncomputable def zz67 : Str → Option (Str) := fun s =>
 if ((([34] : Str).length + s.length) ≤ 9223372036854775807) then
 if (((([34] : Str) ++ s).length + ([34] : Str).length) ≤ 9223372036854775807) then
 some ((([34] : Str) ++ s) ++ ([34] : Str)) else none else none
abbrev zz49GA := GVal ⊕ ((Int × ((List GVal) × Int)) × ((List Str) × GVal))
abbrev zz49GB : zz49GA → Type
 | (.inl _) => Str
 | (.inr _) => (GVal × (List Str))
noncomputable def zz49F (zz49 : GVal → Option (Str)) (zz49_l10 : ((Int × ((List GVal) × Int)) × ((List Str) × GVal)) → Option ((GVal × (List Str)))) : GVal → Option (Str) := fun v =>
 if (v.kind == (1 : Int)) then (lib_Itoa v.n >>= fun i =>
 some i) else
 if (v.kind == (2 : Int)) then (zz67 v.s >>= fun q =>
 some q) else
 zz49_l10 (((0 : Int), (v.items, (v.items.length : Int))), ([], v.re)) >>= fun r =>
 lib_Join (r.2, ([44] : Str)) >>= fun j =>
 if (r.1.kind == (3 : Int)) then (if ((([91] : Str).length + j.length) ≤ 9223372036854775807) then
 if (((([91] : Str) ++ j).length + ([93] : Str).length) ≤ 9223372036854775807) then
 some ((([91] : Str) ++ j) ++ ([93] : Str)) else none else none) else
 if ((([123] : Str).length + j.length) ≤ 9223372036854775807) then
 if (((([123] : Str) ++ j).length + ([125] : Str).length) ≤ 9223372036854775807) then
 some ((([123] : Str) ++ j) ++ ([125] : Str)) else none else none
noncomputable def zz49_l10F (zz49 : GVal → Option (Str)) (zz49_l10 : ((Int × ((List GVal) × Int)) × ((List Str) × GVal)) → Option ((GVal × (List Str)))) : ((Int × ((List GVal) × Int)) × ((List Str) × GVal)) → Option ((GVal × (List Str))) := fun ((x23, x21, x22), c, c1) =>
 if (decide (x23 < x22)) then (if ((0 : Int) ≤ x23) then
 if (x23 < (x21.length : Int)) then
 zz49 (elt .val x21 x23.toNat).re >>= fun w =>
 if (c1.kind == (4 : Int)) then (if ((0 : Int) ≤ x23) then
 if (x23 < (c1.names.length : Int)) then
 zz67 (elt .str c1.names x23.toNat) >>= fun q =>
 if ((q.length + ([58] : Str).length) ≤ 9223372036854775807) then
 if (((q ++ ([58] : Str)).length + w.length) ≤ 9223372036854775807) then
 if (sumOk (c.length + [((q ++ ([58] : Str)) ++ w)].length) 16) then
 zz49_l10 (((IntKind.wrap .i64 (x23 + (1 : Int))), (x21, x22)), ((c ++ [((q ++ ([58] : Str)) ++ w)]), c1.re)) else none else none else none else none else none) else
 if (sumOk (c.length + [w].length) 16) then
 zz49_l10 (((IntKind.wrap .i64 (x23 + (1 : Int))), (x21, x22)), ((c ++ [w]), c1.re)) else none else none else none) else
 some (c1.re, c)
noncomputable def zz49GF (u : ∀ a, Option (zz49GB a)) : ∀ a, Option (zz49GB a)
 | (.inl q) => zz49F (fun q => u (.inl q)) (fun q => u (.inr q)) q
 | (.inr q) => zz49_l10F (fun q => u (.inl q)) (fun q => u (.inr q)) q
noncomputable def zz49 (q : GVal) : Option (Str) := fixO zz49GF (.inl q)
noncomputable def zz49_l10 (q : ((Int × ((List GVal) × Int)) × ((List Str) × GVal))) : Option ((GVal × (List Str))) := fixO zz49GF (.inr q)
theorem zz49Gc : ∀ a, Cont fun u => zz49GF u a
 | (.inl v) => by unfold zz49GF zz49F; exact (.ite (.const _) (.ite (.const _) (.bind (.app _) fun _ => (.const _))))
 | (.inr ((x23, x21, x22), c, c1)) => by unfold zz49GF zz49_l10F; exact (.ite (.ite (.ite (.bind (.app _) fun _ => (.ite (.ite (.ite (.bind (.const _) fun _ => (.ite (.ite (.ite (.app _) (.const _)) (.const _)) (.const _))) (.const _)) (.const _)) (.ite (.app _) (.const _)))) (.const _)) (.const _)) (.const _))
theorem zz49_eq (q : GVal) : zz49 q = zz49F zz49 zz49_l10 q := fixO_eq zz49Gc (.inl q)
theorem zz49_l10_eq (q : ((Int × ((List GVal) × Int)) × ((List Str) × GVal))) : zz49_l10 q = zz49_l10F zz49 zz49_l10 q := fixO_eq zz49Gc (.inr q)
noncomputable def zz83 : GVal → Option ((Str × Int)) := fun v =>
 zz84 v.re >>= fun r =>
 if (!r) then some ([], (1 : Int)) else
 zz49 v.re >>= fun w =>
 if (decide ((w.length : Int) > (4096 : Int))) then some ([], (2 : Int)) else
 some (w, (0 : Int))
noncomputable def zz82 : Str → Option ((GVal × Int)) := fun s =>
 if (decide ((s.length : Int) > (4096 : Int))) then some ((GVal.mk (0 : Int) (0 : Int) [] [] []), (2 : Int)) else
 zz16 ((6 : Int), s) >>= fun e =>
 Sum.elim (fun e1 => some ((GVal.mk (0 : Int) (0 : Int) [] [] []), (6 : Int))) (fun e1 => zz83 e1.1.re >>= fun p =>
 if (p.2 != (0 : Int)) then some ((GVal.mk (0 : Int) (0 : Int) [] [] []), (6 : Int)) else
 if (p.1 != s) then some ((GVal.mk (0 : Int) (0 : Int) [] [] []), (6 : Int)) else
 some (e1.1.re, (0 : Int))) e
noncomputable def zz79_l3F (self : (Int × Str) → Option (Bool ⊕ Str)) : (Int × Str) → Option (Bool ⊕ Str) := fun (i, s) =>
 if (decide (i < (s.length : Int))) then (if ((0 : Int) ≤ i) then
 if (i < (s.length : Int)) then
 if (decide ((bt s i) < (32 : Int))) then some (.inl false) else
 if ((0 : Int) ≤ i) then
 if (i < (s.length : Int)) then
 if (decide ((bt s i) > (126 : Int))) then some (.inl false) else
 if ((0 : Int) ≤ i) then
 if (i < (s.length : Int)) then
 if ((bt s i) == (34 : Int)) then some (.inl false) else
 if ((0 : Int) ≤ i) then
 if (i < (s.length : Int)) then
 if ((bt s i) == (92 : Int)) then some (.inl false) else
 self ((IntKind.wrap .i64 (i + (1 : Int))), s) else none else none else none else none else none else none else none else none) else
 some (.inr s)
noncomputable def zz79_l3 : (Int × Str) → Option (Bool ⊕ Str) := fixO (B := fun _ => Bool ⊕ Str) zz79_l3F
theorem zz79_l3_eq (q : (Int × Str)) : zz79_l3 q = zz79_l3F zz79_l3 q := fixO_eq (B := fun _ => Bool ⊕ Str) (fun (i, s) => (.ite (.ite (.ite (.ite (.const _) (.ite (.ite (.ite (.const _) (.ite (.ite (.ite (.const _) (.ite (.ite (.ite (.const _) (.app _)) (.const _)) (.const _))) (.const _)) (.const _))) (.const _)) (.const _))) (.const _)) (.const _)) (.const _))) q
noncomputable def zz79 : Str → Option (Bool) := fun s =>
 zz79_l3 ((0 : Int), s) >>= fun r =>
 Sum.elim (fun r1 => some r1) (fun r1 => some (decide ((r1.length : Int) ≤ (200 : Int)))) r
noncomputable def zz77_l3F (self : (Int × (Str × Str)) → Option (Bool ⊕ (Str × Str))) : (Int × (Str × Str)) → Option (Bool ⊕ (Str × Str)) := fun (i, b, a) =>
 if (decide (i < (a.length : Int))) then (if (decide (i < (b.length : Int))) then (if ((0 : Int) ≤ i) then
 if (i < (a.length : Int)) then
 if ((0 : Int) ≤ i) then
 if (i < (b.length : Int)) then
 if ((bt a i) != (bt b i)) then (if ((0 : Int) ≤ i) then
 if (i < (a.length : Int)) then
 if ((0 : Int) ≤ i) then
 if (i < (b.length : Int)) then
 some (.inl (decide ((bt a i) < (bt b i)))) else none else none else none else none) else
 self ((IntKind.wrap .i64 (i + (1 : Int))), (b, a)) else none else none else none else none) else
 some (.inr (b, a))) else
 some (.inr (b, a))
noncomputable def zz77_l3 : (Int × (Str × Str)) → Option (Bool ⊕ (Str × Str)) := fixO (B := fun _ => Bool ⊕ (Str × Str)) zz77_l3F
theorem zz77_l3_eq (q : (Int × (Str × Str))) : zz77_l3 q = zz77_l3F zz77_l3 q := fixO_eq (B := fun _ => Bool ⊕ (Str × Str)) (fun (i, b, a) => (.ite (.ite (.ite (.ite (.ite (.ite (.ite (.const _) (.app _)) (.const _)) (.const _)) (.const _)) (.const _)) (.const _)) (.const _))) q
noncomputable def zz77 : (Str × Str) → Option (Bool) := fun (a, b) =>
 zz77_l3 ((0 : Int), (b, a)) >>= fun r =>
 Sum.elim (fun r1 => some r1) (fun r1 => some (decide ((r1.2.length : Int) < (r1.1.length : Int)))) r
noncomputable def zz91_l9F (self : ((Int × ((List Str) × Int)) × GVal) → Option (Bool ⊕ Unit)) : ((Int × ((List Str) × Int)) × GVal) → Option (Bool ⊕ Unit) := fun ((x92, x90, x91), c) =>
 if (decide (x92 < x91)) then (if ((0 : Int) ≤ x92) then
 if (x92 < (x90.length : Int)) then
 zz79 (elt .str x90 x92.toNat) >>= fun w =>
 if (!w) then some (.inl false) else
 if (decide (x92 > (0 : Int))) then (if ((0 : Int) ≤ (IntKind.wrap .i64 (x92 - (1 : Int)))) then
 if ((IntKind.wrap .i64 (x92 - (1 : Int))) < (c.names.length : Int)) then
 zz77 ((elt .str c.names (IntKind.wrap .i64 (x92 - (1 : Int))).toNat), (elt .str x90 x92.toNat)) >>= fun l =>
 if (!l) then some (.inl false) else
 self (((IntKind.wrap .i64 (x92 + (1 : Int))), (x90, x91)), c.re) else none else none) else
 self (((IntKind.wrap .i64 (x92 + (1 : Int))), (x90, x91)), c.re) else none else none) else
 some (.inr ())
noncomputable def zz91_l9 : ((Int × ((List Str) × Int)) × GVal) → Option (Bool ⊕ Unit) := fixO (B := fun _ => Bool ⊕ Unit) zz91_l9F
theorem zz91_l9_eq (q : ((Int × ((List Str) × Int)) × GVal)) : zz91_l9 q = zz91_l9F zz91_l9 q := fixO_eq (B := fun _ => Bool ⊕ Unit) (fun ((x92, x90, x91), c) => (.ite (.ite (.ite (.bind (.const _) fun _ => (.ite (.const _) (.ite (.ite (.ite (.bind (.const _) fun _ => (.ite (.const _) (.app _))) (.const _)) (.const _)) (.app _)))) (.const _)) (.const _)) (.const _))) q
noncomputable def zz91 : GVal → Option (Bool) := fun v =>
 if (decide (v.kind < (1 : Int))) then some false else
 if (decide (v.kind > (4 : Int))) then some false else
 if (v.kind != (1 : Int)) then (if (v.n != (0 : Int)) then some false else
 if (v.kind != (2 : Int)) then (if (v.s != []) then some false else
 if (decide (v.kind < (3 : Int))) then (if (decide ((v.items.length : Int) > (0 : Int))) then some false else
 if (v.kind != (4 : Int)) then (if (decide ((v.names.length : Int) > (0 : Int))) then some false else
 if (decide (v.n < (0 : Int))) then some false else
 if (decide (v.n > (1099511627776 : Int))) then some false else
 zz79 v.s >>= fun w =>
 if (!w) then some false else
 if (decide ((v.items.length : Int) > (16 : Int))) then some false else
 if (v.kind == (4 : Int)) then (if ((v.names.length : Int) != (v.items.length : Int)) then some false else
 zz91_l9 (((0 : Int), (v.names, (v.names.length : Int))), v.re) >>= fun r =>
 Sum.elim (fun r1 => some r1) (fun r1 => some true) r) else
 zz91_l9 (((0 : Int), (v.names, (v.names.length : Int))), v.re) >>= fun r =>
 Sum.elim (fun r1 => some r1) (fun r1 => some true) r) else
 if (decide (v.n < (0 : Int))) then some false else
 if (decide (v.n > (1099511627776 : Int))) then some false else
 zz79 v.s >>= fun w =>
 if (!w) then some false else
 if (decide ((v.items.length : Int) > (16 : Int))) then some false else
 if (v.kind == (4 : Int)) then (if ((v.names.length : Int) != (v.items.length : Int)) then some false else
 zz91_l9 (((0 : Int), (v.names, (v.names.length : Int))), v.re) >>= fun r =>
 Sum.elim (fun r1 => some r1) (fun r1 => some true) r) else
 zz91_l9 (((0 : Int), (v.names, (v.names.length : Int))), v.re) >>= fun r =>
 Sum.elim (fun r1 => some r1) (fun r1 => some true) r) else
 if (v.kind != (4 : Int)) then (if (decide ((v.names.length : Int) > (0 : Int))) then some false else
 if (decide (v.n < (0 : Int))) then some false else
 if (decide (v.n > (1099511627776 : Int))) then some false else
 zz79 v.s >>= fun w =>
 if (!w) then some false else
 if (decide ((v.items.length : Int) > (16 : Int))) then some false else
 if (v.kind == (4 : Int)) then (if ((v.names.length : Int) != (v.items.length : Int)) then some false else
 zz91_l9 (((0 : Int), (v.names, (v.names.length : Int))), v.re) >>= fun r =>
 Sum.elim (fun r1 => some r1) (fun r1 => some true) r) else
 zz91_l9 (((0 : Int), (v.names, (v.names.length : Int))), v.re) >>= fun r =>
 Sum.elim (fun r1 => some r1) (fun r1 => some true) r) else
 if (decide (v.n < (0 : Int))) then some false else
 if (decide (v.n > (1099511627776 : Int))) then some false else
 zz79 v.s >>= fun w =>
 if (!w) then some false else
 if (decide ((v.items.length : Int) > (16 : Int))) then some false else
 if (v.kind == (4 : Int)) then (if ((v.names.length : Int) != (v.items.length : Int)) then some false else
 zz91_l9 (((0 : Int), (v.names, (v.names.length : Int))), v.re) >>= fun r =>
 Sum.elim (fun r1 => some r1) (fun r1 => some true) r) else
 zz91_l9 (((0 : Int), (v.names, (v.names.length : Int))), v.re) >>= fun r =>
 Sum.elim (fun r1 => some r1) (fun r1 => some true) r) else
 if (decide (v.kind < (3 : Int))) then (if (decide ((v.items.length : Int) > (0 : Int))) then some false else
 if (v.kind != (4 : Int)) then (if (decide ((v.names.length : Int) > (0 : Int))) then some false else
 if (decide (v.n < (0 : Int))) then some false else
 if (decide (v.n > (1099511627776 : Int))) then some false else
 zz79 v.s >>= fun w =>
 if (!w) then some false else
 if (decide ((v.items.length : Int) > (16 : Int))) then some false else
 if (v.kind == (4 : Int)) then (if ((v.names.length : Int) != (v.items.length : Int)) then some false else
 zz91_l9 (((0 : Int), (v.names, (v.names.length : Int))), v.re) >>= fun r =>
 Sum.elim (fun r1 => some r1) (fun r1 => some true) r) else
 zz91_l9 (((0 : Int), (v.names, (v.names.length : Int))), v.re) >>= fun r =>
 Sum.elim (fun r1 => some r1) (fun r1 => some true) r) else
 if (decide (v.n < (0 : Int))) then some false else
 if (decide (v.n > (1099511627776 : Int))) then some false else
 zz79 v.s >>= fun w =>
 if (!w) then some false else
 if (decide ((v.items.length : Int) > (16 : Int))) then some false else
 if (v.kind == (4 : Int)) then (if ((v.names.length : Int) != (v.items.length : Int)) then some false else
 zz91_l9 (((0 : Int), (v.names, (v.names.length : Int))), v.re) >>= fun r =>
 Sum.elim (fun r1 => some r1) (fun r1 => some true) r) else
 zz91_l9 (((0 : Int), (v.names, (v.names.length : Int))), v.re) >>= fun r =>
 Sum.elim (fun r1 => some r1) (fun r1 => some true) r) else
 if (v.kind != (4 : Int)) then (if (decide ((v.names.length : Int) > (0 : Int))) then some false else
 if (decide (v.n < (0 : Int))) then some false else
 if (decide (v.n > (1099511627776 : Int))) then some false else
 zz79 v.s >>= fun w =>
 if (!w) then some false else
 if (decide ((v.items.length : Int) > (16 : Int))) then some false else
 if (v.kind == (4 : Int)) then (if ((v.names.length : Int) != (v.items.length : Int)) then some false else
 zz91_l9 (((0 : Int), (v.names, (v.names.length : Int))), v.re) >>= fun r =>
 Sum.elim (fun r1 => some r1) (fun r1 => some true) r) else
 zz91_l9 (((0 : Int), (v.names, (v.names.length : Int))), v.re) >>= fun r =>
 Sum.elim (fun r1 => some r1) (fun r1 => some true) r) else
 if (decide (v.n < (0 : Int))) then some false else
 if (decide (v.n > (1099511627776 : Int))) then some false else
 zz79 v.s >>= fun w =>
 if (!w) then some false else
 if (decide ((v.items.length : Int) > (16 : Int))) then some false else
 if (v.kind == (4 : Int)) then (if ((v.names.length : Int) != (v.items.length : Int)) then some false else
 zz91_l9 (((0 : Int), (v.names, (v.names.length : Int))), v.re) >>= fun r =>
 Sum.elim (fun r1 => some r1) (fun r1 => some true) r) else
 zz91_l9 (((0 : Int), (v.names, (v.names.length : Int))), v.re) >>= fun r =>
 Sum.elim (fun r1 => some r1) (fun r1 => some true) r) else
 if (v.kind != (2 : Int)) then (if (v.s != []) then some false else
 if (decide (v.kind < (3 : Int))) then (if (decide ((v.items.length : Int) > (0 : Int))) then some false else
 if (v.kind != (4 : Int)) then (if (decide ((v.names.length : Int) > (0 : Int))) then some false else
 if (decide (v.n < (0 : Int))) then some false else
 if (decide (v.n > (1099511627776 : Int))) then some false else
 zz79 v.s >>= fun w =>
 if (!w) then some false else
 if (decide ((v.items.length : Int) > (16 : Int))) then some false else
 if (v.kind == (4 : Int)) then (if ((v.names.length : Int) != (v.items.length : Int)) then some false else
 zz91_l9 (((0 : Int), (v.names, (v.names.length : Int))), v.re) >>= fun r =>
 Sum.elim (fun r1 => some r1) (fun r1 => some true) r) else
 zz91_l9 (((0 : Int), (v.names, (v.names.length : Int))), v.re) >>= fun r =>
 Sum.elim (fun r1 => some r1) (fun r1 => some true) r) else
 if (decide (v.n < (0 : Int))) then some false else
 if (decide (v.n > (1099511627776 : Int))) then some false else
 zz79 v.s >>= fun w =>
 if (!w) then some false else
 if (decide ((v.items.length : Int) > (16 : Int))) then some false else
 if (v.kind == (4 : Int)) then (if ((v.names.length : Int) != (v.items.length : Int)) then some false else
 zz91_l9 (((0 : Int), (v.names, (v.names.length : Int))), v.re) >>= fun r =>
 Sum.elim (fun r1 => some r1) (fun r1 => some true) r) else
 zz91_l9 (((0 : Int), (v.names, (v.names.length : Int))), v.re) >>= fun r =>
 Sum.elim (fun r1 => some r1) (fun r1 => some true) r) else
 if (v.kind != (4 : Int)) then (if (decide ((v.names.length : Int) > (0 : Int))) then some false else
 if (decide (v.n < (0 : Int))) then some false else
 if (decide (v.n > (1099511627776 : Int))) then some false else
 zz79 v.s >>= fun w =>
 if (!w) then some false else
 if (decide ((v.items.length : Int) > (16 : Int))) then some false else
 if (v.kind == (4 : Int)) then (if ((v.names.length : Int) != (v.items.length : Int)) then some false else
 zz91_l9 (((0 : Int), (v.names, (v.names.length : Int))), v.re) >>= fun r =>
 Sum.elim (fun r1 => some r1) (fun r1 => some true) r) else
 zz91_l9 (((0 : Int), (v.names, (v.names.length : Int))), v.re) >>= fun r =>
 Sum.elim (fun r1 => some r1) (fun r1 => some true) r) else
 if (decide (v.n < (0 : Int))) then some false else
 if (decide (v.n > (1099511627776 : Int))) then some false else
 zz79 v.s >>= fun w =>
 if (!w) then some false else
 if (decide ((v.items.length : Int) > (16 : Int))) then some false else
 if (v.kind == (4 : Int)) then (if ((v.names.length : Int) != (v.items.length : Int)) then some false else
 zz91_l9 (((0 : Int), (v.names, (v.names.length : Int))), v.re) >>= fun r =>
 Sum.elim (fun r1 => some r1) (fun r1 => some true) r) else
 zz91_l9 (((0 : Int), (v.names, (v.names.length : Int))), v.re) >>= fun r =>
 Sum.elim (fun r1 => some r1) (fun r1 => some true) r) else
 if (decide (v.kind < (3 : Int))) then (if (decide ((v.items.length : Int) > (0 : Int))) then some false else
 if (v.kind != (4 : Int)) then (if (decide ((v.names.length : Int) > (0 : Int))) then some false else
 if (decide (v.n < (0 : Int))) then some false else
 if (decide (v.n > (1099511627776 : Int))) then some false else
 zz79 v.s >>= fun w =>
 if (!w) then some false else
 if (decide ((v.items.length : Int) > (16 : Int))) then some false else
 if (v.kind == (4 : Int)) then (if ((v.names.length : Int) != (v.items.length : Int)) then some false else
 zz91_l9 (((0 : Int), (v.names, (v.names.length : Int))), v.re) >>= fun r =>
 Sum.elim (fun r1 => some r1) (fun r1 => some true) r) else
 zz91_l9 (((0 : Int), (v.names, (v.names.length : Int))), v.re) >>= fun r =>
 Sum.elim (fun r1 => some r1) (fun r1 => some true) r) else
 if (decide (v.n < (0 : Int))) then some false else
 if (decide (v.n > (1099511627776 : Int))) then some false else
 zz79 v.s >>= fun w =>
 if (!w) then some false else
 if (decide ((v.items.length : Int) > (16 : Int))) then some false else
 if (v.kind == (4 : Int)) then (if ((v.names.length : Int) != (v.items.length : Int)) then some false else
 zz91_l9 (((0 : Int), (v.names, (v.names.length : Int))), v.re) >>= fun r =>
 Sum.elim (fun r1 => some r1) (fun r1 => some true) r) else
 zz91_l9 (((0 : Int), (v.names, (v.names.length : Int))), v.re) >>= fun r =>
 Sum.elim (fun r1 => some r1) (fun r1 => some true) r) else
 if (v.kind != (4 : Int)) then (if (decide ((v.names.length : Int) > (0 : Int))) then some false else
 if (decide (v.n < (0 : Int))) then some false else
 if (decide (v.n > (1099511627776 : Int))) then some false else
 zz79 v.s >>= fun w =>
 if (!w) then some false else
 if (decide ((v.items.length : Int) > (16 : Int))) then some false else
 if (v.kind == (4 : Int)) then (if ((v.names.length : Int) != (v.items.length : Int)) then some false else
 zz91_l9 (((0 : Int), (v.names, (v.names.length : Int))), v.re) >>= fun r =>
 Sum.elim (fun r1 => some r1) (fun r1 => some true) r) else
 zz91_l9 (((0 : Int), (v.names, (v.names.length : Int))), v.re) >>= fun r =>
 Sum.elim (fun r1 => some r1) (fun r1 => some true) r) else
 if (decide (v.n < (0 : Int))) then some false else
 if (decide (v.n > (1099511627776 : Int))) then some false else
 zz79 v.s >>= fun w =>
 if (!w) then some false else
 if (decide ((v.items.length : Int) > (16 : Int))) then some false else
 if (v.kind == (4 : Int)) then (if ((v.names.length : Int) != (v.items.length : Int)) then some false else
 zz91_l9 (((0 : Int), (v.names, (v.names.length : Int))), v.re) >>= fun r =>
 Sum.elim (fun r1 => some r1) (fun r1 => some true) r) else
 zz91_l9 (((0 : Int), (v.names, (v.names.length : Int))), v.re) >>= fun r =>
 Sum.elim (fun r1 => some r1) (fun r1 => some true) r
abbrev zz90GA := (GVal × Int) ⊕ (Int × (Int × ((List GVal) × Int)))
abbrev zz90GB : zz90GA → Type
 | (.inl _) => Bool
 | (.inr _) => Bool ⊕ Unit
noncomputable def zz90F (zz90 : (GVal × Int) → Option (Bool)) (zz90_l6 : (Int × (Int × ((List GVal) × Int))) → Option (Bool ⊕ Unit)) : (GVal × Int) → Option (Bool) := fun (v, deep) =>
 if (deep == (0 : Int)) then some false else
 zz91 v.re >>= fun o =>
 if (!o) then some false else
 zz90_l6 ((0 : Int), (deep, (v.items, (v.items.length : Int)))) >>= fun r =>
 Sum.elim (fun r1 => some r1) (fun r1 => some true) r
noncomputable def zz90_l6F (zz90 : (GVal × Int) → Option (Bool)) (zz90_l6 : (Int × (Int × ((List GVal) × Int))) → Option (Bool ⊕ Unit)) : (Int × (Int × ((List GVal) × Int))) → Option (Bool ⊕ Unit) := fun (x17, deep, x15, x16) =>
 if (decide (x17 < x16)) then (if ((0 : Int) ≤ x17) then
 if (x17 < (x15.length : Int)) then
 zz90 ((elt .val x15 x17.toNat).re, (IntKind.wrap .i64 (deep - (1 : Int)))) >>= fun m =>
 if (!m) then some (.inl false) else
 zz90_l6 ((IntKind.wrap .i64 (x17 + (1 : Int))), (deep, (x15, x16))) else none else none) else
 some (.inr ())
noncomputable def zz90GF (u : ∀ a, Option (zz90GB a)) : ∀ a, Option (zz90GB a)
 | (.inl q) => zz90F (fun q => u (.inl q)) (fun q => u (.inr q)) q
 | (.inr q) => zz90_l6F (fun q => u (.inl q)) (fun q => u (.inr q)) q
noncomputable def zz90 (q : (GVal × Int)) : Option (Bool) := fixO zz90GF (.inl q)
noncomputable def zz90_l6 (q : (Int × (Int × ((List GVal) × Int)))) : Option (Bool ⊕ Unit) := fixO zz90GF (.inr q)
theorem zz90Gc : ∀ a, Cont fun u => zz90GF u a
 | (.inl (v, deep)) => by unfold zz90GF zz90F; exact (.ite (.const _) (.bind (.const _) fun _ => (.ite (.const _) (.bind (.app _) fun _ => (.const _)))))
 | (.inr (x17, deep, x15, x16)) => by unfold zz90GF zz90_l6F; exact (.ite (.ite (.ite (.bind (.app _) fun _ => (.ite (.const _) (.app _))) (.const _)) (.const _)) (.const _))
theorem zz90_eq (q : (GVal × Int)) : zz90 q = zz90F zz90 zz90_l6 q := fixO_eq zz90Gc (.inl q)
theorem zz90_l6_eq (q : (Int × (Int × ((List GVal) × Int)))) : zz90_l6 q = zz90_l6F zz90 zz90_l6 q := fixO_eq zz90Gc (.inr q)
noncomputable def zz61 : GVal → Option (Bool) := fun v =>
 zz90 (v.re, (6 : Int)) >>= fun m =>
 some m
noncomputable def zz62_l6F (self : ((Int × (Int × Str)) × (GVal × Int)) → Option ((GVal × Int) ⊕ (GVal × Int))) : ((Int × (Int × Str)) × (GVal × Int)) → Option ((GVal × Int) ⊕ (GVal × Int)) := fun ((i, at1, s), c) =>
 if (decide (i < (s.length : Int))) then (if ((0 : Int) ≤ i) then
 if (i < (s.length : Int)) then
 if ((bt s i) == (34 : Int)) then (if ((0 : Int) ≤ (IntKind.wrap .i64 (at1 + (1 : Int)))) then
 if ((IntKind.wrap .i64 (at1 + (1 : Int))) ≤ i) then
 if (i ≤ (s.length : Int)) then
 some (.inl ((GVal.mk (2 : Int) (0 : Int) (List.drop (IntKind.wrap .i64 (at1 + (1 : Int))).toNat (List.take i.toNat s)) [] []), (IntKind.wrap .i64 (i + (1 : Int))))) else none else none else none) else
 self (((IntKind.wrap .i64 (i + (1 : Int))), (at1, s)), (c.1.re, c.2)) else none else none) else
 some (.inr (c.1.re, c.2))
noncomputable def zz62_l6 : ((Int × (Int × Str)) × (GVal × Int)) → Option ((GVal × Int) ⊕ (GVal × Int)) := fixO (B := fun _ => (GVal × Int) ⊕ (GVal × Int)) zz62_l6F
theorem zz62_l6_eq (q : ((Int × (Int × Str)) × (GVal × Int))) : zz62_l6 q = zz62_l6F zz62_l6 q := fixO_eq (B := fun _ => (GVal × Int) ⊕ (GVal × Int)) (fun ((i, at1, s), c) => (.ite (.ite (.ite (.ite (.const _) (.app _)) (.const _)) (.const _)) (.const _))) q
noncomputable def zz62 : (Str × Int) → Option ((GVal × Int)) := fun (s, at1) =>
 if (decide (at1 ≥ (s.length : Int))) then some ((GVal.mk (0 : Int) (0 : Int) [] [] []), (-1 : Int)) else
 if ((0 : Int) ≤ at1) then
 if (at1 < (s.length : Int)) then
 if ((bt s at1) != (34 : Int)) then some ((GVal.mk (0 : Int) (0 : Int) [] [] []), (-1 : Int)) else
 zz62_l6 (((IntKind.wrap .i64 (at1 + (1 : Int))), (at1, s)), ((GVal.mk (0 : Int) (0 : Int) [] [] []), (0 : Int))) >>= fun r =>
 Sum.elim (fun r1 => some (r1.1.re, r1.2)) (fun r1 => some ((GVal.mk (0 : Int) (0 : Int) [] [] []), (-1 : Int))) r else none else none
noncomputable def zz48_l4F (self : ((Int × (Str × (Int × Int))) × (GVal × Int)) → Option ((GVal × Int) ⊕ ((Int × (Int × (Int × Str))) × (GVal × Int)))) : ((Int × (Str × (Int × Int))) × (GVal × Int)) → Option ((GVal × Int) ⊕ ((Int × (Int × (Int × Str))) × (GVal × Int))) := fun ((at1, s, n, from1), c) =>
 if (decide (at1 < (s.length : Int))) then (if ((0 : Int) ≤ at1) then
 if (at1 < (s.length : Int)) then
 if (decide ((bt s at1) ≥ (48 : Int))) then (if ((0 : Int) ≤ at1) then
 if (at1 < (s.length : Int)) then
 if (decide ((bt s at1) ≤ (57 : Int))) then (if (decide (n > (1099511627776 : Int))) then some (.inl ((GVal.mk (0 : Int) (0 : Int) [] [] []), (-1 : Int))) else
 if ((0 : Int) ≤ at1) then
 if (at1 < (s.length : Int)) then
 self (((IntKind.wrap .i64 (at1 + (1 : Int))), (s, ((IntKind.wrap .i64 ((IntKind.wrap .i64 ((10 : Int) * n)) + (IntKind.wrap .i64 (IntKind.wrap .u8 ((bt s at1) - (48 : Int)))))), from1))), (c.1.re, c.2)) else none else none) else
 some (.inr ((at1, (n, (from1, s))), (c.1.re, c.2))) else none else none) else
 some (.inr ((at1, (n, (from1, s))), (c.1.re, c.2))) else none else none) else
 some (.inr ((at1, (n, (from1, s))), (c.1.re, c.2)))
noncomputable def zz48_l4 : ((Int × (Str × (Int × Int))) × (GVal × Int)) → Option ((GVal × Int) ⊕ ((Int × (Int × (Int × Str))) × (GVal × Int))) := fixO (B := fun _ => (GVal × Int) ⊕ ((Int × (Int × (Int × Str))) × (GVal × Int))) zz48_l4F
theorem zz48_l4_eq (q : ((Int × (Str × (Int × Int))) × (GVal × Int))) : zz48_l4 q = zz48_l4F zz48_l4 q := fixO_eq (B := fun _ => (GVal × Int) ⊕ ((Int × (Int × (Int × Str))) × (GVal × Int))) (fun ((at1, s, n, from1), c) => (.ite (.ite (.ite (.ite (.ite (.ite (.ite (.ite (.const _) (.ite (.ite (.app _) (.const _)) (.const _))) (.const _)) (.const _)) (.const _)) (.const _)) (.const _)) (.const _)) (.const _))) q
noncomputable def zz48 : (Str × Int) → Option ((GVal × Int)) := fun (s, at1) =>
 zz48_l4 ((at1, (s, ((0 : Int), at1))), ((GVal.mk (0 : Int) (0 : Int) [] [] []), (0 : Int))) >>= fun r =>
 Sum.elim (fun r1 => some (r1.1.re, r1.2)) (fun r1 => if (r1.1.1 == r1.1.2.2.1) then some ((GVal.mk (0 : Int) (0 : Int) [] [] []), (-1 : Int)) else
 lib_Itoa r1.1.2.1 >>= fun i =>
 if ((0 : Int) ≤ r1.1.2.2.1) then
 if (r1.1.2.2.1 ≤ r1.1.1) then
 if (r1.1.1 ≤ (r1.1.2.2.2.length : Int)) then
 if (i != (List.drop r1.1.2.2.1.toNat (List.take r1.1.1.toNat r1.1.2.2.2))) then some ((GVal.mk (0 : Int) (0 : Int) [] [] []), (-1 : Int)) else
 some ((GVal.mk (1 : Int) r1.1.2.1 [] [] []), r1.1.1) else none else none else none) r
abbrev zz78GA := (Str × (Int × Int)) ⊕ ((Str × (Int × (Int × Int))) × ((GVal × Int) × ((Int × (Int × Str)) × ((List GVal) × (List Str)))))
abbrev zz78GB : zz78GA → Type
 | (.inl _) => (GVal × Int)
 | (.inr _) => (GVal × Int) ⊕ (GVal × Int)
noncomputable def zz78F (zz78 : (Str × (Int × Int)) → Option ((GVal × Int))) (zz78_l20 : ((Str × (Int × (Int × Int))) × ((GVal × Int) × ((Int × (Int × Str)) × ((List GVal) × (List Str))))) → Option ((GVal × Int) ⊕ (GVal × Int))) : (Str × (Int × Int)) → Option ((GVal × Int)) := fun (s, at1, deep) =>
 if (decide (at1 ≥ (s.length : Int))) then some ((GVal.mk (0 : Int) (0 : Int) [] [] []), (-1 : Int)) else
 if (deep == (0 : Int)) then some ((GVal.mk (0 : Int) (0 : Int) [] [] []), (-1 : Int)) else
 if ((0 : Int) ≤ at1) then
 if (at1 < (s.length : Int)) then
 if ((bt s at1) == (34 : Int)) then (zz62 (s, at1) >>= fun q =>
 some (q.1.re, q.2)) else
 if ((0 : Int) ≤ at1) then
 if (at1 < (s.length : Int)) then
 if ((bt s at1) != (91 : Int)) then (if ((0 : Int) ≤ at1) then
 if (at1 < (s.length : Int)) then
 if ((bt s at1) != (123 : Int)) then (zz48 (s, at1) >>= fun n =>
 some (n.1.re, n.2)) else
 if ((0 : Int) ≤ at1) then
 if (at1 < (s.length : Int)) then
 if ((bt s at1) == (123 : Int)) then (if (decide ((IntKind.wrap .i64 (at1 + (1 : Int))) < (s.length : Int))) then (if ((0 : Int) ≤ (IntKind.wrap .i64 (at1 + (1 : Int)))) then
 if ((IntKind.wrap .i64 (at1 + (1 : Int))) < (s.length : Int)) then
 if ((bt s (IntKind.wrap .i64 (at1 + (1 : Int)))) == (125 : Int)) then some ((GVal.mk (4 : Int) (0 : Int) [] [] []), (IntKind.wrap .i64 ((IntKind.wrap .i64 (at1 + (1 : Int))) + (1 : Int)))) else
 zz78_l20 ((s, ((125 : Int), (deep, (IntKind.wrap .i64 (at1 + (1 : Int)))))), (((GVal.mk (0 : Int) (0 : Int) [] [] []), (0 : Int)), (((4 : Int), ((0 : Int), [])), ([], [])))) >>= fun r =>
 Sum.elim (fun r1 => some (r1.1.re, r1.2)) (fun r1 => some ((GVal.mk (0 : Int) (0 : Int) [] [] []), (-1 : Int))) r else none else none) else
 zz78_l20 ((s, ((125 : Int), (deep, (IntKind.wrap .i64 (at1 + (1 : Int)))))), (((GVal.mk (0 : Int) (0 : Int) [] [] []), (0 : Int)), (((4 : Int), ((0 : Int), [])), ([], [])))) >>= fun r =>
 Sum.elim (fun r1 => some (r1.1.re, r1.2)) (fun r1 => some ((GVal.mk (0 : Int) (0 : Int) [] [] []), (-1 : Int))) r) else
 if (decide ((IntKind.wrap .i64 (at1 + (1 : Int))) < (s.length : Int))) then (if ((0 : Int) ≤ (IntKind.wrap .i64 (at1 + (1 : Int)))) then
 if ((IntKind.wrap .i64 (at1 + (1 : Int))) < (s.length : Int)) then
 if ((bt s (IntKind.wrap .i64 (at1 + (1 : Int)))) == (93 : Int)) then some ((GVal.mk (3 : Int) (0 : Int) [] [] []), (IntKind.wrap .i64 ((IntKind.wrap .i64 (at1 + (1 : Int))) + (1 : Int)))) else
 zz78_l20 ((s, ((93 : Int), (deep, (IntKind.wrap .i64 (at1 + (1 : Int)))))), (((GVal.mk (0 : Int) (0 : Int) [] [] []), (0 : Int)), (((3 : Int), ((0 : Int), [])), ([], [])))) >>= fun r =>
 Sum.elim (fun r1 => some (r1.1.re, r1.2)) (fun r1 => some ((GVal.mk (0 : Int) (0 : Int) [] [] []), (-1 : Int))) r else none else none) else
 zz78_l20 ((s, ((93 : Int), (deep, (IntKind.wrap .i64 (at1 + (1 : Int)))))), (((GVal.mk (0 : Int) (0 : Int) [] [] []), (0 : Int)), (((3 : Int), ((0 : Int), [])), ([], [])))) >>= fun r =>
 Sum.elim (fun r1 => some (r1.1.re, r1.2)) (fun r1 => some ((GVal.mk (0 : Int) (0 : Int) [] [] []), (-1 : Int))) r else none else none else none else none) else
 if ((0 : Int) ≤ at1) then
 if (at1 < (s.length : Int)) then
 if ((bt s at1) == (123 : Int)) then (if (decide ((IntKind.wrap .i64 (at1 + (1 : Int))) < (s.length : Int))) then (if ((0 : Int) ≤ (IntKind.wrap .i64 (at1 + (1 : Int)))) then
 if ((IntKind.wrap .i64 (at1 + (1 : Int))) < (s.length : Int)) then
 if ((bt s (IntKind.wrap .i64 (at1 + (1 : Int)))) == (125 : Int)) then some ((GVal.mk (4 : Int) (0 : Int) [] [] []), (IntKind.wrap .i64 ((IntKind.wrap .i64 (at1 + (1 : Int))) + (1 : Int)))) else
 zz78_l20 ((s, ((125 : Int), (deep, (IntKind.wrap .i64 (at1 + (1 : Int)))))), (((GVal.mk (0 : Int) (0 : Int) [] [] []), (0 : Int)), (((4 : Int), ((0 : Int), [])), ([], [])))) >>= fun r =>
 Sum.elim (fun r1 => some (r1.1.re, r1.2)) (fun r1 => some ((GVal.mk (0 : Int) (0 : Int) [] [] []), (-1 : Int))) r else none else none) else
 zz78_l20 ((s, ((125 : Int), (deep, (IntKind.wrap .i64 (at1 + (1 : Int)))))), (((GVal.mk (0 : Int) (0 : Int) [] [] []), (0 : Int)), (((4 : Int), ((0 : Int), [])), ([], [])))) >>= fun r =>
 Sum.elim (fun r1 => some (r1.1.re, r1.2)) (fun r1 => some ((GVal.mk (0 : Int) (0 : Int) [] [] []), (-1 : Int))) r) else
 if (decide ((IntKind.wrap .i64 (at1 + (1 : Int))) < (s.length : Int))) then (if ((0 : Int) ≤ (IntKind.wrap .i64 (at1 + (1 : Int)))) then
 if ((IntKind.wrap .i64 (at1 + (1 : Int))) < (s.length : Int)) then
 if ((bt s (IntKind.wrap .i64 (at1 + (1 : Int)))) == (93 : Int)) then some ((GVal.mk (3 : Int) (0 : Int) [] [] []), (IntKind.wrap .i64 ((IntKind.wrap .i64 (at1 + (1 : Int))) + (1 : Int)))) else
 zz78_l20 ((s, ((93 : Int), (deep, (IntKind.wrap .i64 (at1 + (1 : Int)))))), (((GVal.mk (0 : Int) (0 : Int) [] [] []), (0 : Int)), (((3 : Int), ((0 : Int), [])), ([], [])))) >>= fun r =>
 Sum.elim (fun r1 => some (r1.1.re, r1.2)) (fun r1 => some ((GVal.mk (0 : Int) (0 : Int) [] [] []), (-1 : Int))) r else none else none) else
 zz78_l20 ((s, ((93 : Int), (deep, (IntKind.wrap .i64 (at1 + (1 : Int)))))), (((GVal.mk (0 : Int) (0 : Int) [] [] []), (0 : Int)), (((3 : Int), ((0 : Int), [])), ([], [])))) >>= fun r =>
 Sum.elim (fun r1 => some (r1.1.re, r1.2)) (fun r1 => some ((GVal.mk (0 : Int) (0 : Int) [] [] []), (-1 : Int))) r else none else none else none else none else none else none
noncomputable def zz78_l20F (zz78 : (Str × (Int × Int)) → Option ((GVal × Int))) (zz78_l20 : ((Str × (Int × (Int × Int))) × ((GVal × Int) × ((Int × (Int × Str)) × ((List GVal) × (List Str))))) → Option ((GVal × Int) ⊕ (GVal × Int))) : ((Str × (Int × (Int × Int))) × ((GVal × Int) × ((Int × (Int × Str)) × ((List GVal) × (List Str))))) → Option ((GVal × Int) ⊕ (GVal × Int)) := fun ((s, end1, deep, at1), c, c1, c2, c3) =>
 if (decide ((c2.length : Int) < (17 : Int))) then (if (c1.1 == (4 : Int)) then (zz62 (s, at1) >>= fun q =>
 if (decide (q.2 < (0 : Int))) then some (.inl ((GVal.mk (0 : Int) (0 : Int) [] [] []), (-1 : Int))) else
 if (decide (q.2 ≥ (s.length : Int))) then some (.inl ((GVal.mk (0 : Int) (0 : Int) [] [] []), (-1 : Int))) else
 if ((0 : Int) ≤ q.2) then
 if (q.2 < (s.length : Int)) then
 if ((bt s q.2) != (58 : Int)) then some (.inl ((GVal.mk (0 : Int) (0 : Int) [] [] []), (-1 : Int))) else
 if (sumOk (c3.length + [q.1.s].length) 16) then
 zz78 (s, ((IntKind.wrap .i64 (q.2 + (1 : Int))), (IntKind.wrap .i64 (deep - (1 : Int))))) >>= fun r =>
 if (decide (r.2 < (0 : Int))) then some (.inl ((GVal.mk (0 : Int) (0 : Int) [] [] []), (-1 : Int))) else
 if (decide (r.2 ≥ (s.length : Int))) then some (.inl ((GVal.mk (0 : Int) (0 : Int) [] [] []), (-1 : Int))) else
 if (sumOk (c2.length + [r.1.re].length) 80) then
 if ((0 : Int) ≤ r.2) then
 if (r.2 < (s.length : Int)) then
 if ((bt s r.2) == end1) then some (.inl ((GVal.mk c1.1 c1.2.1 c1.2.2 (c2 ++ [r.1.re]) (c3 ++ [q.1.s])), (IntKind.wrap .i64 (r.2 + (1 : Int))))) else
 if ((0 : Int) ≤ r.2) then
 if (r.2 < (s.length : Int)) then
 if ((bt s r.2) != (44 : Int)) then some (.inl ((GVal.mk (0 : Int) (0 : Int) [] [] []), (-1 : Int))) else
 zz78_l20 ((s, (end1, (deep, (IntKind.wrap .i64 (r.2 + (1 : Int)))))), ((c.1.re, c.2), (c1, ((c2 ++ [r.1.re]), (c3 ++ [q.1.s]))))) else none else none else none else none else none else none else none else none) else
 zz78 (s, (at1, (IntKind.wrap .i64 (deep - (1 : Int))))) >>= fun r =>
 if (decide (r.2 < (0 : Int))) then some (.inl ((GVal.mk (0 : Int) (0 : Int) [] [] []), (-1 : Int))) else
 if (decide (r.2 ≥ (s.length : Int))) then some (.inl ((GVal.mk (0 : Int) (0 : Int) [] [] []), (-1 : Int))) else
 if (sumOk (c2.length + [r.1.re].length) 80) then
 if ((0 : Int) ≤ r.2) then
 if (r.2 < (s.length : Int)) then
 if ((bt s r.2) == end1) then some (.inl ((GVal.mk c1.1 c1.2.1 c1.2.2 (c2 ++ [r.1.re]) c3), (IntKind.wrap .i64 (r.2 + (1 : Int))))) else
 if ((0 : Int) ≤ r.2) then
 if (r.2 < (s.length : Int)) then
 if ((bt s r.2) != (44 : Int)) then some (.inl ((GVal.mk (0 : Int) (0 : Int) [] [] []), (-1 : Int))) else
 zz78_l20 ((s, (end1, (deep, (IntKind.wrap .i64 (r.2 + (1 : Int)))))), ((c.1.re, c.2), (c1, ((c2 ++ [r.1.re]), c3)))) else none else none else none else none else none) else
 some (.inr (c.1.re, c.2))
noncomputable def zz78GF (u : ∀ a, Option (zz78GB a)) : ∀ a, Option (zz78GB a)
 | (.inl q) => zz78F (fun q => u (.inl q)) (fun q => u (.inr q)) q
 | (.inr q) => zz78_l20F (fun q => u (.inl q)) (fun q => u (.inr q)) q
noncomputable def zz78 (q : (Str × (Int × Int))) : Option ((GVal × Int)) := fixO zz78GF (.inl q)
noncomputable def zz78_l20 (q : ((Str × (Int × (Int × Int))) × ((GVal × Int) × ((Int × (Int × Str)) × ((List GVal) × (List Str)))))) : Option ((GVal × Int) ⊕ (GVal × Int)) := fixO zz78GF (.inr q)
theorem zz78Gc : ∀ a, Cont fun u => zz78GF u a
 | (.inl (s, at1, deep)) => by unfold zz78GF zz78F; exact (.ite (.const _) (.ite (.const _) (.ite (.ite (.ite (.const _) (.ite (.ite (.ite (.ite (.ite (.ite (.const _) (.ite (.ite (.ite (.ite (.ite (.ite (.ite (.const _) (.bind (.app _) fun _ => (.const _))) (.const _)) (.const _)) (.bind (.app _) fun _ => (.const _))) (.ite (.ite (.ite (.ite (.const _) (.bind (.app _) fun _ => (.const _))) (.const _)) (.const _)) (.bind (.app _) fun _ => (.const _)))) (.const _)) (.const _))) (.const _)) (.const _)) (.ite (.ite (.ite (.ite (.ite (.ite (.ite (.const _) (.bind (.app _) fun _ => (.const _))) (.const _)) (.const _)) (.bind (.app _) fun _ => (.const _))) (.ite (.ite (.ite (.ite (.const _) (.bind (.app _) fun _ => (.const _))) (.const _)) (.const _)) (.bind (.app _) fun _ => (.const _)))) (.const _)) (.const _))) (.const _)) (.const _))) (.const _)) (.const _))))
 | (.inr ((s, end1, deep, at1), c, c1, c2, c3)) => by unfold zz78GF zz78_l20F; exact (.ite (.ite (.bind (.const _) fun _ => (.ite (.const _) (.ite (.const _) (.ite (.ite (.ite (.const _) (.ite (.bind (.app _) fun _ => (.ite (.const _) (.ite (.const _) (.ite (.ite (.ite (.ite (.const _) (.ite (.ite (.ite (.const _) (.app _)) (.const _)) (.const _))) (.const _)) (.const _)) (.const _))))) (.const _))) (.const _)) (.const _))))) (.bind (.app _) fun _ => (.ite (.const _) (.ite (.const _) (.ite (.ite (.ite (.ite (.const _) (.ite (.ite (.ite (.const _) (.app _)) (.const _)) (.const _))) (.const _)) (.const _)) (.const _)))))) (.const _))
theorem zz78_eq (q : (Str × (Int × Int))) : zz78 q = zz78F zz78 zz78_l20 q := fixO_eq zz78Gc (.inl q)
theorem zz78_l20_eq (q : ((Str × (Int × (Int × Int))) × ((GVal × Int) × ((Int × (Int × Str)) × ((List GVal) × (List Str)))))) : zz78_l20 q = zz78_l20F zz78 zz78_l20 q := fixO_eq zz78Gc (.inr q)
noncomputable def zz60 : Str → Option ((GVal × Bool)) := fun s =>
 zz78 (s, ((0 : Int), (6 : Int))) >>= fun r =>
 if (r.2 != (s.length : Int)) then some ((GVal.mk (0 : Int) (0 : Int) [] [] []), false) else
 zz61 r.1.re >>= fun r1 =>
 if (!r1) then some ((GVal.mk (0 : Int) (0 : Int) [] [] []), false) else
 some (r.1.re, true)
noncomputable def zz22_l3F (self : (Int × ((List Str) × (Str × Int))) → Option (Int ⊕ Unit)) : (Int × ((List Str) × (Str × Int))) → Option (Int ⊕ Unit) := fun (x8, s, v, x7) =>
 if (decide (x8 < x7)) then (if ((0 : Int) ≤ x8) then
 if (x8 < (s.length : Int)) then
 if (v == (elt .str s x8.toNat)) then some (.inl x8) else
 self ((IntKind.wrap .i64 (x8 + (1 : Int))), (s, (v, x7))) else none else none) else
 some (.inr ())
noncomputable def zz22_l3 : (Int × ((List Str) × (Str × Int))) → Option (Int ⊕ Unit) := fixO (B := fun _ => Int ⊕ Unit) zz22_l3F
theorem zz22_l3_eq (q : (Int × ((List Str) × (Str × Int)))) : zz22_l3 q = zz22_l3F zz22_l3 q := fixO_eq (B := fun _ => Int ⊕ Unit) (fun (x8, s, v, x7) => (.ite (.ite (.ite (.ite (.const _) (.app _)) (.const _)) (.const _)) (.const _))) q
noncomputable def zz22 : ((List Str) × Str) → Option (Int) := fun (s, v) =>
 zz22_l3 ((0 : Int), (s, (v, (s.length : Int)))) >>= fun r =>
 Sum.elim (fun r1 => some r1) (fun r1 => some (-1 : Int)) r
noncomputable def text_Get : (GVal × (Str × Int)) → Option ((GVal × Int)) := fun (v, name, kind) =>
 zz22 (v.names, name) >>= fun s =>
 if (v.kind != (4 : Int)) then some ((GVal.mk (0 : Int) (0 : Int) [] [] []), (8 : Int)) else
 if ((v.names.length : Int) != (v.items.length : Int)) then some ((GVal.mk (0 : Int) (0 : Int) [] [] []), (8 : Int)) else
 if (decide (s < (0 : Int))) then some ((GVal.mk (0 : Int) (0 : Int) [] [] []), (8 : Int)) else
 if ((0 : Int) ≤ s) then
 if (s < (v.items.length : Int)) then
 if ((elt .val v.items s.toNat).kind != kind) then some ((GVal.mk (0 : Int) (0 : Int) [] [] []), (8 : Int)) else
 if ((0 : Int) ≤ s) then
 if (s < (v.items.length : Int)) then
 some ((elt .val v.items s.toNat).re, (0 : Int)) else none else none else none else none
end Go.Plain
