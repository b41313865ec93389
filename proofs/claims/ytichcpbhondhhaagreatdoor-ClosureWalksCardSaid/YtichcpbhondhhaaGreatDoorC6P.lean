import Derived.Test.YtichcpbhondhhaaGreatDoorBMLib
import Derived.Test.YtichcpbhondhhaaGreatDoorTKeys
import Derived.Test.YtichcpbhondhhaaGreatDoorT4P
import Derived.Test.YtichcpbhondhhaaGreatDoorM5P
import Derived.Test.YtichcpbhondhhaaGreatDoorN5P
namespace Go.Plain
open Go.AM
set_option linter.unusedVariables false
noncomputable def zz88_l4F (self : ((Int × Int) × (List (Str × Str))) → Option ((List (Str × Str)))) : ((Int × Int) × (List (Str × Str))) → Option ((List (Str × Str))) := fun ((x14, x13), c) =>
 if (decide (x14 < x13)) then (if ((0 : Int) ≤ x14) then
 if (x14 < (c.length : Int)) then
 if (x14.toNat < c.length) then
 if ((0 : Int) ≤ (min ((elt (.pair .str .str) c x14.toNat).1.length : Int) (80 : Int))) then
 if ((min ((elt (.pair .str .str) c x14.toNat).1.length : Int) (80 : Int)) ≤ ((elt (.pair .str .str) c x14.toNat).1.length : Int)) then
 if ((0 : Int) ≤ (min ((elt (.pair .str .str) c x14.toNat).2.length : Int) (1200 : Int))) then
 if ((min ((elt (.pair .str .str) c x14.toNat).2.length : Int) (1200 : Int)) ≤ ((elt (.pair .str .str) c x14.toNat).2.length : Int)) then
 if ((0 : Int) ≤ x14) then
 if (x14 < (c.length : Int)) then
 if (x14.toNat < c.length) then
 self (((IntKind.wrap .i64 (x14 + (1 : Int))), x13), (List.set c x14.toNat ((List.take (min ((elt (.pair .str .str) c x14.toNat).1.length : Int) (80 : Int)).toNat (elt (.pair .str .str) c x14.toNat).1), (List.take (min ((elt (.pair .str .str) c x14.toNat).2.length : Int) (1200 : Int)).toNat (elt (.pair .str .str) c x14.toNat).2)))) else none else none else none else none else none else none else none else none else none else none) else
 some c
noncomputable def zz88_l4 : ((Int × Int) × (List (Str × Str))) → Option ((List (Str × Str))) := fixO (B := fun _ => (List (Str × Str))) zz88_l4F
theorem zz88_l4_eq (q : ((Int × Int) × (List (Str × Str)))) : zz88_l4 q = zz88_l4F zz88_l4 q := fixO_eq (B := fun _ => (List (Str × Str))) (fun ((x14, x13), c) => (.ite (.ite (.ite (.ite (.ite (.ite (.ite (.ite (.ite (.ite (.ite (.app _) (.const _)) (.const _)) (.const _)) (.const _)) (.const _)) (.const _)) (.const _)) (.const _)) (.const _)) (.const _)) (.const _))) q
noncomputable def zz88 : (List (Str × Str)) → Option ((List (Str × Str))) := fun l =>
 if ((0 : Int) ≤ (min (l.length : Int) (12 : Int))) then
 if ((min (l.length : Int) (12 : Int)) ≤ (l.length : Int)) then
 if (sumOk (0 + (List.take (min (l.length : Int) (12 : Int)).toNat l).length) 32) then
 zz88_l4 (((0 : Int), ((List.take (min (l.length : Int) (12 : Int)).toNat l).length : Int)), (List.take (min (l.length : Int) (12 : Int)).toNat l)) >>= fun r =>
 some r else none else none else none
noncomputable def zz23 : ((Str × Str) × Str) → Option ((Bool × Str)) := fun (o, c) =>
 some ((o.1 == c), c)
noncomputable def zz2_l3F (self : ((Int × ((List (Str × Str)) × Int)) × Str) → Option ((Int × Str) ⊕ Str)) : ((Int × ((List (Str × Str)) × Int)) × Str) → Option ((Int × Str) ⊕ Str) := fun ((x8, s, x7), c) =>
 if (decide (x8 < x7)) then (if ((0 : Int) ≤ x8) then
 if (x8 < (s.length : Int)) then
 zz23 ((elt (.pair .str .str) s x8.toNat), c) >>= fun d =>
 if d.1 then some (.inl (x8, d.2)) else
 self (((IntKind.wrap .i64 (x8 + (1 : Int))), (s, x7)), d.2) else none else none) else
 some (.inr c)
noncomputable def zz2_l3 : ((Int × ((List (Str × Str)) × Int)) × Str) → Option ((Int × Str) ⊕ Str) := fixO (B := fun _ => (Int × Str) ⊕ Str) zz2_l3F
theorem zz2_l3_eq (q : ((Int × ((List (Str × Str)) × Int)) × Str)) : zz2_l3 q = zz2_l3F zz2_l3 q := fixO_eq (B := fun _ => (Int × Str) ⊕ Str) (fun ((x8, s, x7), c) => (.ite (.ite (.ite (.bind (.const _) fun _ => (.ite (.const _) (.app _))) (.const _)) (.const _)) (.const _))) q
noncomputable def zz2 : ((List (Str × Str)) × Str) → Option ((Int × Str)) := fun (s, c) =>
 zz2_l3 (((0 : Int), (s, (s.length : Int))), c) >>= fun r =>
 Sum.elim (fun r1 => some r1) (fun r1 => some ((-1 : Int), r1)) r
noncomputable def zz50 : (Str × Str) → Option (Int) := fun (digest, data) =>
 zz45 digest >>= fun p =>
 if (p.2 != (0 : Int)) then some p.2 else
 zz70 [data] >>= fun s =>
 if (s != p.1) then some (10 : Int) else
 some (0 : Int)
noncomputable def zz44 : ((List (Str × Str)) × Str) → Option ((Str × Int)) := fun (l, d) =>
 zz2 (l, d) >>= fun o =>
 if (decide (o.1 < (0 : Int))) then some ([], (9 : Int)) else
 if ((0 : Int) ≤ o.1) then
 if (o.1 < (l.length : Int)) then
 zz50 (o.2, (elt (.pair .str .str) l o.1.toNat).2) >>= fun f =>
 if (f != (0 : Int)) then some ([], (10 : Int)) else
 if ((0 : Int) ≤ o.1) then
 if (o.1 < (l.length : Int)) then
 some ((elt (.pair .str .str) l o.1.toNat).2, (0 : Int)) else none else none else none else none
noncomputable def zz10_l19F (self : ((Int × ((List Str) × (Str × Int))) × ((List (Str × Str)) × ((List Str) × (List Str)))) → Option ((Str × ((List (Str × Str)) × ((List Str) × (List Str)))))) : ((Int × ((List Str) × (Str × Int))) × ((List (Str × Str)) × ((List Str) × (List Str)))) → Option ((Str × ((List (Str × Str)) × ((List Str) × (List Str))))) := fun ((x47, x45, d, x46), c, c1, c2) =>
 if (decide (x47 < x46)) then (if ((0 : Int) ≤ x47) then
 if (x47 < (x45.length : Int)) then
 zz14 (c2, (elt .str x45 x47.toNat)) >>= fun s =>
 if (!s) then (if (sumOk (c2.length + [(elt .str x45 x47.toNat)].length) 16) then
 self (((IntKind.wrap .i64 (x47 + (1 : Int))), (x45, (d, x46))), (c, (c1, (c2 ++ [(elt .str x45 x47.toNat)])))) else none) else
 self (((IntKind.wrap .i64 (x47 + (1 : Int))), (x45, (d, x46))), (c, (c1, c2))) else none else none) else
 some (d, (c, (c1, c2)))
noncomputable def zz10_l19 : ((Int × ((List Str) × (Str × Int))) × ((List (Str × Str)) × ((List Str) × (List Str)))) → Option ((Str × ((List (Str × Str)) × ((List Str) × (List Str))))) := fixO (B := fun _ => (Str × ((List (Str × Str)) × ((List Str) × (List Str))))) zz10_l19F
theorem zz10_l19_eq (q : ((Int × ((List Str) × (Str × Int))) × ((List (Str × Str)) × ((List Str) × (List Str))))) : zz10_l19 q = zz10_l19F zz10_l19 q := fixO_eq (B := fun _ => (Str × ((List (Str × Str)) × ((List Str) × (List Str))))) (fun ((x47, x45, d, x46), c, c1, c2) => (.ite (.ite (.ite (.bind (.const _) fun _ => (.ite (.ite (.app _) (.const _)) (.app _))) (.const _)) (.const _)) (.const _))) q
abbrev zz8GA := (Str × (Int × ((List (Str × Str)) × ((List Str) × (List Str))))) ⊕ ((Str × Int) × ((List (Str × Str)) × ((List Str) × (List Str)))) ⊕ ((List Str) × (Int × ((List (Str × Str)) × ((List Str) × (List Str))))) ⊕ ((Int × ((List Str) × Int)) × (Int × ((List (Str × Str)) × ((List Str) × (List Str)))))
abbrev zz8GB : zz8GA → Type
 | (.inl _) => (Int × (Int × ((List (Str × Str)) × ((List Str) × (List Str)))))
 | (.inr (.inl _)) => (Int × ((List (Str × Str)) × ((List Str) × (List Str))))
 | (.inr (.inr (.inl _))) => (Int × (Int × ((List (Str × Str)) × ((List Str) × (List Str)))))
 | (.inr (.inr (.inr _))) => (Int × (Int × ((List (Str × Str)) × ((List Str) × (List Str))))) ⊕ (Int × ((List (Str × Str)) × ((List Str) × (List Str))))
noncomputable def zz8F (zz8 : (Str × (Int × ((List (Str × Str)) × ((List Str) × (List Str))))) → Option ((Int × (Int × ((List (Str × Str)) × ((List Str) × (List Str))))))) (zz10 : ((Str × Int) × ((List (Str × Str)) × ((List Str) × (List Str)))) → Option ((Int × ((List (Str × Str)) × ((List Str) × (List Str)))))) (zz26 : ((List Str) × (Int × ((List (Str × Str)) × ((List Str) × (List Str))))) → Option ((Int × (Int × ((List (Str × Str)) × ((List Str) × (List Str))))))) (zz26_l3 : ((Int × ((List Str) × Int)) × (Int × ((List (Str × Str)) × ((List Str) × (List Str))))) → Option ((Int × (Int × ((List (Str × Str)) × ((List Str) × (List Str))))) ⊕ (Int × ((List (Str × Str)) × ((List Str) × (List Str)))))) : (Str × (Int × ((List (Str × Str)) × ((List Str) × (List Str))))) → Option ((Int × (Int × ((List (Str × Str)) × ((List Str) × (List Str)))))) := fun (k, c, c1, c2, c3) =>
 zz14 (c2, k) >>= fun s =>
 if s then some ((0 : Int), (c, (c1, (c2, c3)))) else
 zz10 ((k, (IntKind.wrap .i64 (c + (1 : Int)))), (c1, (c2, c3))) >>= fun w =>
 some (w.1, (c, w.2))
noncomputable def zz10F (zz8 : (Str × (Int × ((List (Str × Str)) × ((List Str) × (List Str))))) → Option ((Int × (Int × ((List (Str × Str)) × ((List Str) × (List Str))))))) (zz10 : ((Str × Int) × ((List (Str × Str)) × ((List Str) × (List Str)))) → Option ((Int × ((List (Str × Str)) × ((List Str) × (List Str)))))) (zz26 : ((List Str) × (Int × ((List (Str × Str)) × ((List Str) × (List Str))))) → Option ((Int × (Int × ((List (Str × Str)) × ((List Str) × (List Str))))))) (zz26_l3 : ((Int × ((List Str) × Int)) × (Int × ((List (Str × Str)) × ((List Str) × (List Str))))) → Option ((Int × (Int × ((List (Str × Str)) × ((List Str) × (List Str))))) ⊕ (Int × ((List (Str × Str)) × ((List Str) × (List Str)))))) : ((Str × Int) × ((List (Str × Str)) × ((List Str) × (List Str)))) → Option ((Int × ((List (Str × Str)) × ((List Str) × (List Str))))) := fun ((d, depth), c, c1, c2) =>
 if (decide (depth > (4 : Int))) then some ((7 : Int), (c, (c1, c2))) else
 zz44 (c, d) >>= fun f =>
 if (f.2 != (0 : Int)) then some (f.2, (c, (c1, c2))) else
 zz31 f.1 >>= fun p =>
 if (p.2 != (0 : Int)) then some (p.2, (c, (c1, c2))) else
 zz26 (p.1.2.2.2, (depth, (c, (c1, c2)))) >>= fun d1 =>
 if (d1.1 != (0 : Int)) then some (d1.1, d1.2.2) else
 zz30 p.1 >>= fun b =>
 zz10_l19 (((0 : Int), (b, (d, (b.length : Int)))), d1.2.2) >>= fun r =>
 if (sumOk (r.2.2.1.length + [r.1].length) 16) then
 some ((0 : Int), (r.2.1, ((r.2.2.1 ++ [r.1]), r.2.2.2))) else none
noncomputable def zz26F (zz8 : (Str × (Int × ((List (Str × Str)) × ((List Str) × (List Str))))) → Option ((Int × (Int × ((List (Str × Str)) × ((List Str) × (List Str))))))) (zz10 : ((Str × Int) × ((List (Str × Str)) × ((List Str) × (List Str)))) → Option ((Int × ((List (Str × Str)) × ((List Str) × (List Str)))))) (zz26 : ((List Str) × (Int × ((List (Str × Str)) × ((List Str) × (List Str))))) → Option ((Int × (Int × ((List (Str × Str)) × ((List Str) × (List Str))))))) (zz26_l3 : ((Int × ((List Str) × Int)) × (Int × ((List (Str × Str)) × ((List Str) × (List Str))))) → Option ((Int × (Int × ((List (Str × Str)) × ((List Str) × (List Str))))) ⊕ (Int × ((List (Str × Str)) × ((List Str) × (List Str)))))) : ((List Str) × (Int × ((List (Str × Str)) × ((List Str) × (List Str))))) → Option ((Int × (Int × ((List (Str × Str)) × ((List Str) × (List Str)))))) := fun (l, c, c1, c2, c3) =>
 zz26_l3 (((0 : Int), (l, (l.length : Int))), (c, (c1, (c2, c3)))) >>= fun r =>
 Sum.elim (fun r1 => some r1) (fun r1 => some ((0 : Int), r1)) r
noncomputable def zz26_l3F (zz8 : (Str × (Int × ((List (Str × Str)) × ((List Str) × (List Str))))) → Option ((Int × (Int × ((List (Str × Str)) × ((List Str) × (List Str))))))) (zz10 : ((Str × Int) × ((List (Str × Str)) × ((List Str) × (List Str)))) → Option ((Int × ((List (Str × Str)) × ((List Str) × (List Str)))))) (zz26 : ((List Str) × (Int × ((List (Str × Str)) × ((List Str) × (List Str))))) → Option ((Int × (Int × ((List (Str × Str)) × ((List Str) × (List Str))))))) (zz26_l3 : ((Int × ((List Str) × Int)) × (Int × ((List (Str × Str)) × ((List Str) × (List Str))))) → Option ((Int × (Int × ((List (Str × Str)) × ((List Str) × (List Str))))) ⊕ (Int × ((List (Str × Str)) × ((List Str) × (List Str)))))) : ((Int × ((List Str) × Int)) × (Int × ((List (Str × Str)) × ((List Str) × (List Str))))) → Option ((Int × (Int × ((List (Str × Str)) × ((List Str) × (List Str))))) ⊕ (Int × ((List (Str × Str)) × ((List Str) × (List Str))))) := fun ((x10, x8, x9), c, c1, c2, c3) =>
 if (decide (x10 < x9)) then (if ((0 : Int) ≤ x10) then
 if (x10 < (x8.length : Int)) then
 zz8 ((elt .str x8 x10.toNat), (c, (c1, (c2, c3)))) >>= fun n =>
 if (n.1 != (0 : Int)) then some (.inl n) else
 zz26_l3 (((IntKind.wrap .i64 (x10 + (1 : Int))), (x8, x9)), n.2) else none else none) else
 some (.inr (c, (c1, (c2, c3))))
noncomputable def zz8GF (u : ∀ a, Option (zz8GB a)) : ∀ a, Option (zz8GB a)
 | (.inl q) => zz8F (fun q => u (.inl q)) (fun q => u (.inr (.inl q))) (fun q => u (.inr (.inr (.inl q)))) (fun q => u (.inr (.inr (.inr q)))) q
 | (.inr (.inl q)) => zz10F (fun q => u (.inl q)) (fun q => u (.inr (.inl q))) (fun q => u (.inr (.inr (.inl q)))) (fun q => u (.inr (.inr (.inr q)))) q
 | (.inr (.inr (.inl q))) => zz26F (fun q => u (.inl q)) (fun q => u (.inr (.inl q))) (fun q => u (.inr (.inr (.inl q)))) (fun q => u (.inr (.inr (.inr q)))) q
 | (.inr (.inr (.inr q))) => zz26_l3F (fun q => u (.inl q)) (fun q => u (.inr (.inl q))) (fun q => u (.inr (.inr (.inl q)))) (fun q => u (.inr (.inr (.inr q)))) q
noncomputable def zz8 (q : (Str × (Int × ((List (Str × Str)) × ((List Str) × (List Str)))))) : Option ((Int × (Int × ((List (Str × Str)) × ((List Str) × (List Str)))))) := fixO zz8GF (.inl q)
noncomputable def zz10 (q : ((Str × Int) × ((List (Str × Str)) × ((List Str) × (List Str))))) : Option ((Int × ((List (Str × Str)) × ((List Str) × (List Str))))) := fixO zz8GF (.inr (.inl q))
noncomputable def zz26 (q : ((List Str) × (Int × ((List (Str × Str)) × ((List Str) × (List Str)))))) : Option ((Int × (Int × ((List (Str × Str)) × ((List Str) × (List Str)))))) := fixO zz8GF (.inr (.inr (.inl q)))
noncomputable def zz26_l3 (q : ((Int × ((List Str) × Int)) × (Int × ((List (Str × Str)) × ((List Str) × (List Str)))))) : Option ((Int × (Int × ((List (Str × Str)) × ((List Str) × (List Str))))) ⊕ (Int × ((List (Str × Str)) × ((List Str) × (List Str))))) := fixO zz8GF (.inr (.inr (.inr q)))
theorem zz8Gc : ∀ a, Cont fun u => zz8GF u a
 | (.inl (k, c, c1, c2, c3)) => by unfold zz8GF zz8F; exact (.bind (.const _) fun _ => (.ite (.const _) (.bind (.app _) fun _ => (.const _))))
 | (.inr (.inl ((d, depth), c, c1, c2))) => by unfold zz8GF zz10F; exact (.ite (.const _) (.bind (.const _) fun _ => (.ite (.const _) (.bind (.const _) fun _ => (.ite (.const _) (.bind (.app _) fun _ => (.const _)))))))
 | (.inr (.inr (.inl (l, c, c1, c2, c3)))) => by unfold zz8GF zz26F; exact (.bind (.app _) fun _ => (.const _))
 | (.inr (.inr (.inr ((x10, x8, x9), c, c1, c2, c3)))) => by unfold zz8GF zz26_l3F; exact (.ite (.ite (.ite (.bind (.app _) fun _ => (.ite (.const _) (.app _))) (.const _)) (.const _)) (.const _))
theorem zz8_eq (q : (Str × (Int × ((List (Str × Str)) × ((List Str) × (List Str)))))) : zz8 q = zz8F zz8 zz10 zz26 zz26_l3 q := fixO_eq zz8Gc (.inl q)
theorem zz10_eq (q : ((Str × Int) × ((List (Str × Str)) × ((List Str) × (List Str))))) : zz10 q = zz10F zz8 zz10 zz26 zz26_l3 q := fixO_eq zz8Gc (.inr (.inl q))
theorem zz26_eq (q : ((List Str) × (Int × ((List (Str × Str)) × ((List Str) × (List Str)))))) : zz26 q = zz26F zz8 zz10 zz26 zz26_l3 q := fixO_eq zz8Gc (.inr (.inr (.inl q)))
theorem zz26_l3_eq (q : ((Int × ((List Str) × Int)) × (Int × ((List (Str × Str)) × ((List Str) × (List Str)))))) : zz26_l3 q = zz26_l3F zz8 zz10 zz26 zz26_l3 q := fixO_eq zz8Gc (.inr (.inr (.inr q)))
noncomputable def zz25_l3F (self : ((Int × ((List Str) × Int)) × (Int × ((List (Str × Str)) × ((List Str) × (List Str))))) → Option ((Int × (Int × ((List (Str × Str)) × ((List Str) × (List Str))))) ⊕ (Int × ((List (Str × Str)) × ((List Str) × (List Str)))))) : ((Int × ((List Str) × Int)) × (Int × ((List (Str × Str)) × ((List Str) × (List Str))))) → Option ((Int × (Int × ((List (Str × Str)) × ((List Str) × (List Str))))) ⊕ (Int × ((List (Str × Str)) × ((List Str) × (List Str))))) := fun ((x10, x8, x9), c, c1, c2, c3) =>
 if (decide (x10 < x9)) then (if ((0 : Int) ≤ x10) then
 if (x10 < (x8.length : Int)) then
 zz8 ((elt .str x8 x10.toNat), (c, (c1, (c2, c3)))) >>= fun n =>
 if (n.1 != (0 : Int)) then some (.inl n) else
 self (((IntKind.wrap .i64 (x10 + (1 : Int))), (x8, x9)), n.2) else none else none) else
 some (.inr (c, (c1, (c2, c3))))
noncomputable def zz25_l3 : ((Int × ((List Str) × Int)) × (Int × ((List (Str × Str)) × ((List Str) × (List Str))))) → Option ((Int × (Int × ((List (Str × Str)) × ((List Str) × (List Str))))) ⊕ (Int × ((List (Str × Str)) × ((List Str) × (List Str))))) := fixO (B := fun _ => (Int × (Int × ((List (Str × Str)) × ((List Str) × (List Str))))) ⊕ (Int × ((List (Str × Str)) × ((List Str) × (List Str))))) zz25_l3F
theorem zz25_l3_eq (q : ((Int × ((List Str) × Int)) × (Int × ((List (Str × Str)) × ((List Str) × (List Str)))))) : zz25_l3 q = zz25_l3F zz25_l3 q := fixO_eq (B := fun _ => (Int × (Int × ((List (Str × Str)) × ((List Str) × (List Str))))) ⊕ (Int × ((List (Str × Str)) × ((List Str) × (List Str))))) (fun ((x10, x8, x9), c, c1, c2, c3) => (.ite (.ite (.ite (.bind (.const _) fun _ => (.ite (.const _) (.app _))) (.const _)) (.const _)) (.const _))) q
noncomputable def zz25 : ((List Str) × (Int × (List (Str × Str)))) → Option ((Int × (Int × ((List (Str × Str)) × ((List Str) × (List Str)))))) := fun (l, c, c1) =>
 zz25_l3 (((0 : Int), (l, (l.length : Int))), (c, (c1, ([], [])))) >>= fun r =>
 Sum.elim (fun r1 => some r1) (fun r1 => some ((0 : Int), r1)) r
noncomputable def zz11_l19F (self : ((Int × ((List Str) × (Str × Int))) × ((List (Str × Str)) × ((List Str) × (List Str)))) → Option ((Str × ((List (Str × Str)) × ((List Str) × (List Str)))))) : ((Int × ((List Str) × (Str × Int))) × ((List (Str × Str)) × ((List Str) × (List Str)))) → Option ((Str × ((List (Str × Str)) × ((List Str) × (List Str))))) := fun ((x47, x45, d, x46), c, c1, c2) =>
 if (decide (x47 < x46)) then (if ((0 : Int) ≤ x47) then
 if (x47 < (x45.length : Int)) then
 zz14 (c2, (elt .str x45 x47.toNat)) >>= fun s =>
 if (!s) then (if (sumOk (c2.length + [(elt .str x45 x47.toNat)].length) 16) then
 self (((IntKind.wrap .i64 (x47 + (1 : Int))), (x45, (d, x46))), (c, (c1, (c2 ++ [(elt .str x45 x47.toNat)])))) else none) else
 self (((IntKind.wrap .i64 (x47 + (1 : Int))), (x45, (d, x46))), (c, (c1, c2))) else none else none) else
 some (d, (c, (c1, c2)))
noncomputable def zz11_l19 : ((Int × ((List Str) × (Str × Int))) × ((List (Str × Str)) × ((List Str) × (List Str)))) → Option ((Str × ((List (Str × Str)) × ((List Str) × (List Str))))) := fixO (B := fun _ => (Str × ((List (Str × Str)) × ((List Str) × (List Str))))) zz11_l19F
theorem zz11_l19_eq (q : ((Int × ((List Str) × (Str × Int))) × ((List (Str × Str)) × ((List Str) × (List Str))))) : zz11_l19 q = zz11_l19F zz11_l19 q := fixO_eq (B := fun _ => (Str × ((List (Str × Str)) × ((List Str) × (List Str))))) (fun ((x47, x45, d, x46), c, c1, c2) => (.ite (.ite (.ite (.bind (.const _) fun _ => (.ite (.ite (.app _) (.const _)) (.app _))) (.const _)) (.const _)) (.const _))) q
noncomputable def zz11 : ((Str × Int) × (List (Str × Str))) → Option ((Int × ((List (Str × Str)) × ((List Str) × (List Str))))) := fun ((d, depth), c) =>
 if (decide (depth > (4 : Int))) then some ((7 : Int), (c, ([], []))) else
 zz44 (c, d) >>= fun f =>
 if (f.2 != (0 : Int)) then some (f.2, (c, ([], []))) else
 zz31 f.1 >>= fun p =>
 if (p.2 != (0 : Int)) then some (p.2, (c, ([], []))) else
 zz25 (p.1.2.2.2, (depth, c)) >>= fun e =>
 if (e.1 != (0 : Int)) then some (e.1, e.2.2) else
 zz30 p.1 >>= fun b =>
 zz11_l19 (((0 : Int), (b, (d, (b.length : Int)))), e.2.2) >>= fun r =>
 if (sumOk (r.2.2.1.length + [r.1].length) 16) then
 some ((0 : Int), (r.2.1, ((r.2.2.1 ++ [r.1]), r.2.2.2))) else none
noncomputable def zz69 : ((List (Str × Str)) × Str) → Option ((((List Str) × (List Str)) × Int)) := fun (l, d) =>
 zz11 ((d, (1 : Int)), l) >>= fun z =>
 if (z.1 != (0 : Int)) then some (([], []), z.1) else
 some (z.2.2, (0 : Int))
noncomputable def zz21 : (Str × (List (Str × Str))) → Option ((Int × (List (Str × Str)))) := fun (b, c) =>
 zz44 (c, b) >>= fun f =>
 some (f.2, c)
noncomputable def zz27_l3F (self : ((Int × ((List Str) × Int)) × (List (Str × Str))) → Option ((Int × (List (Str × Str))) ⊕ (List (Str × Str)))) : ((Int × ((List Str) × Int)) × (List (Str × Str))) → Option ((Int × (List (Str × Str))) ⊕ (List (Str × Str))) := fun ((x10, x8, x9), c) =>
 if (decide (x10 < x9)) then (if ((0 : Int) ≤ x10) then
 if (x10 < (x8.length : Int)) then
 zz21 ((elt .str x8 x10.toNat), c) >>= fun i =>
 if (i.1 != (0 : Int)) then some (.inl i) else
 self (((IntKind.wrap .i64 (x10 + (1 : Int))), (x8, x9)), i.2) else none else none) else
 some (.inr c)
noncomputable def zz27_l3 : ((Int × ((List Str) × Int)) × (List (Str × Str))) → Option ((Int × (List (Str × Str))) ⊕ (List (Str × Str))) := fixO (B := fun _ => (Int × (List (Str × Str))) ⊕ (List (Str × Str))) zz27_l3F
theorem zz27_l3_eq (q : ((Int × ((List Str) × Int)) × (List (Str × Str)))) : zz27_l3 q = zz27_l3F zz27_l3 q := fixO_eq (B := fun _ => (Int × (List (Str × Str))) ⊕ (List (Str × Str))) (fun ((x10, x8, x9), c) => (.ite (.ite (.ite (.bind (.const _) fun _ => (.ite (.const _) (.app _))) (.const _)) (.const _)) (.const _))) q
noncomputable def zz27 : ((List Str) × (List (Str × Str))) → Option ((Int × (List (Str × Str)))) := fun (l, c) =>
 zz27_l3 (((0 : Int), (l, (l.length : Int))), c) >>= fun r =>
 Sum.elim (fun r1 => some r1) (fun r1 => some ((0 : Int), r1)) r
noncomputable def zz40 : ((List (Str × Str)) × Str) → Option (Int) := fun (l, d) =>
 zz69 (l, d) >>= fun o =>
 if (o.2 != (0 : Int)) then some o.2 else
 zz27 (o.1.2, l) >>= fun r =>
 some r.1
noncomputable def zz52 : Unit → Option (Bool) := fun _ =>
 zz87 ([99] : Str) >>= fun o =>
 zz32 (false, (o, ([], []))) >>= fun p =>
 zz87 ([99] : Str) >>= fun o1 =>
 zz87 p.1 >>= fun o2 =>
 if (p.2 == (0 : Int)) then (if (decide ((p.1.length : Int) > (70 : Int))) then (zz87 p.1 >>= fun o3 =>
 zz40 ([(o1, ([99] : Str)), (o2, p.1)], o3) >>= fun w =>
 if (w == (0 : Int)) then (zz87 p.1 >>= fun o4 =>
 zz40 ((List.drop 1 (List.take ([(o1, ([99] : Str)), (o2, p.1)].length : Int).toNat [(o1, ([99] : Str)), (o2, p.1)])), o4) >>= fun w1 =>
 some (w1 == (9 : Int))) else
 some false) else
 some false) else
 some false
noncomputable def zz89_l5F (self : (Int × (List Int)) → Option ((Int × (List Int)))) : (Int × (List Int)) → Option ((Int × (List Int))) := fun (bits, c) =>
 if ((Int.tmod (c.length : Int) (64 : Int)) != (56 : Int)) then (if (sumOk (c.length + [(0 : Int)].length) 1) then
 self (bits, (c ++ [(0 : Int)])) else none) else
 some (bits, c)
noncomputable def zz89_l5 : (Int × (List Int)) → Option ((Int × (List Int))) := fixO (B := fun _ => (Int × (List Int))) zz89_l5F
theorem zz89_l5_eq (q : (Int × (List Int))) : zz89_l5 q = zz89_l5F zz89_l5 q := fixO_eq (B := fun _ => (Int × (List Int))) (fun (bits, c) => (.ite (.ite (.app _) (.const _)) (.const _))) q
noncomputable def zz89_l11F (self : ((Int × (Int × Int)) × (List Int)) → Option ((List Int))) : ((Int × (Int × Int)) × (List Int)) → Option ((List Int)) := fun ((i, p, bits), c) =>
 if (decide (i < (8 : Int))) then (if (p ≠ (0 : Int)) then
 if (sumOk (c.length + [(IntKind.wrap .u8 (Int.tmod (IntKind.wrap .u64 (Int.tdiv bits p)) (256 : Int)))].length) 1) then
 self (((IntKind.wrap .i64 (i + (1 : Int))), ((IntKind.wrap .u64 (Int.tdiv p (256 : Int))), bits)), (c ++ [(IntKind.wrap .u8 (Int.tmod (IntKind.wrap .u64 (Int.tdiv bits p)) (256 : Int)))])) else none else none) else
 some c
noncomputable def zz89_l11 : ((Int × (Int × Int)) × (List Int)) → Option ((List Int)) := fixO (B := fun _ => (List Int)) zz89_l11F
theorem zz89_l11_eq (q : ((Int × (Int × Int)) × (List Int))) : zz89_l11 q = zz89_l11F zz89_l11 q := fixO_eq (B := fun _ => (List Int)) (fun ((i, p, bits), c) => (.ite (.ite (.ite (.app _) (.const _)) (.const _)) (.const _))) q
noncomputable def zz57 : Unit → Option ((List Int)) := fun _ =>
 some [(1779033703 : Int), (3144134277 : Int), (1013904242 : Int), (2773480762 : Int), (1359893119 : Int), (2600822924 : Int), (528734635 : Int), (1541459225 : Int)]
noncomputable def zz74 : Unit → Option ((List Int)) := fun _ =>
 some (List.set (List.set (List.set (List.set (List.set (List.set (List.set (List.set (List.set (List.set (List.set (List.set (List.set (List.set (List.set (List.set (List.set (List.set (List.set (List.set (List.set (List.set (List.set (List.set (List.set (List.set (List.set (List.set (List.set (List.set (List.set (List.set (List.set (List.set (List.set (List.set (List.set (List.set (List.set (List.set (List.set (List.set (List.set (List.set (List.set (List.set (List.set (List.set (List.set (List.set (List.set (List.set (List.set (List.set (List.set (List.set (List.set (List.set (List.set (List.set (List.set (List.set (List.set (List.set (List.replicate 64 (0 : Int)) 0 (1116352408 : Int)) 1 (1899447441 : Int)) 2 (3049323471 : Int)) 3 (3921009573 : Int)) 4 (961987163 : Int)) 5 (1508970993 : Int)) 6 (2453635748 : Int)) 7 (2870763221 : Int)) 8 (3624381080 : Int)) 9 (310598401 : Int)) 10 (607225278 : Int)) 11 (1426881987 : Int)) 12 (1925078388 : Int)) 13 (2162078206 : Int)) 14 (2614888103 : Int)) 15 (3248222580 : Int)) 16 (3835390401 : Int)) 17 (4022224774 : Int)) 18 (264347078 : Int)) 19 (604807628 : Int)) 20 (770255983 : Int)) 21 (1249150122 : Int)) 22 (1555081692 : Int)) 23 (1996064986 : Int)) 24 (2554220882 : Int)) 25 (2821834349 : Int)) 26 (2952996808 : Int)) 27 (3210313671 : Int)) 28 (3336571891 : Int)) 29 (3584528711 : Int)) 30 (113926993 : Int)) 31 (338241895 : Int)) 32 (666307205 : Int)) 33 (773529912 : Int)) 34 (1294757372 : Int)) 35 (1396182291 : Int)) 36 (1695183700 : Int)) 37 (1986661051 : Int)) 38 (2177026350 : Int)) 39 (2456956037 : Int)) 40 (2730485921 : Int)) 41 (2820302411 : Int)) 42 (3259730800 : Int)) 43 (3345764771 : Int)) 44 (3516065817 : Int)) 45 (3600352804 : Int)) 46 (4094571909 : Int)) 47 (275423344 : Int)) 48 (430227734 : Int)) 49 (506948616 : Int)) 50 (659060556 : Int)) 51 (883997877 : Int)) 52 (958139571 : Int)) 53 (1322822218 : Int)) 54 (1537002063 : Int)) 55 (1747873779 : Int)) 56 (1955562222 : Int)) 57 (2024104815 : Int)) 58 (2227730452 : Int)) 59 (2361852424 : Int)) 60 (2428436474 : Int)) 61 (2756734187 : Int)) 62 (3204031479 : Int)) 63 (3329325298 : Int))
noncomputable def zz56_l11F (self : ((Int × (Int × (Str × (Int × ((List Int) × (List Int)))))) × (List Int)) → Option (((Str × ((List Int) × ((List Int) × (Int × Int)))) × (List Int)))) : ((Int × (Int × (Str × (Int × ((List Int) × (List Int)))))) × (List Int)) → Option (((Str × ((List Int) × ((List Int) × (Int × Int)))) × (List Int))) := fun ((i, t, s, x1, keys, h), c) =>
 if (decide (i < (4 : Int))) then (if ((0 : Int) ≤ (IntKind.wrap .i64 ((IntKind.wrap .i64 ((4 : Int) * t)) + i))) then
 if ((IntKind.wrap .i64 ((IntKind.wrap .i64 ((4 : Int) * t)) + i)) < (s.length : Int)) then
 self (((IntKind.wrap .i64 (i + (1 : Int))), (t, (s, ((IntKind.wrap .u32 ((IntKind.wrap .u32 ((256 : Int) * x1)) + (IntKind.wrap .u32 (bt s (IntKind.wrap .i64 ((IntKind.wrap .i64 ((4 : Int) * t)) + i)))))), (keys, h))))), c) else none else none) else
 some ((s, (keys, (h, (t, x1)))), c)
noncomputable def zz56_l11 : ((Int × (Int × (Str × (Int × ((List Int) × (List Int)))))) × (List Int)) → Option (((Str × ((List Int) × ((List Int) × (Int × Int)))) × (List Int))) := fixO (B := fun _ => ((Str × ((List Int) × ((List Int) × (Int × Int)))) × (List Int))) zz56_l11F
theorem zz56_l11_eq (q : ((Int × (Int × (Str × (Int × ((List Int) × (List Int)))))) × (List Int))) : zz56_l11 q = zz56_l11F zz56_l11 q := fixO_eq (B := fun _ => ((Str × ((List Int) × ((List Int) × (Int × Int)))) × (List Int))) (fun ((i, t, s, x1, keys, h), c) => (.ite (.ite (.ite (.app _) (.const _)) (.const _)) (.const _))) q
noncomputable def zz56_l4F (self : ((Int × (Str × ((List Int) × (List Int)))) × (List Int)) → Option ((((List Int) × (List Int)) × (List Int)))) : ((Int × (Str × ((List Int) × (List Int)))) × (List Int)) → Option ((((List Int) × (List Int)) × (List Int))) := fun ((t, s, keys, h), c) =>
 if (decide (t < (16 : Int))) then (zz56_l11 (((0 : Int), (t, (s, ((0 : Int), (keys, h))))), c) >>= fun r =>
 if (sumOk (r.2.length + [r.1.2.2.2.2].length) 4) then
 self (((IntKind.wrap .i64 (r.1.2.2.2.1 + (1 : Int))), (r.1.1, (r.1.2.1, r.1.2.2.1))), (r.2 ++ [r.1.2.2.2.2])) else none) else
 some ((keys, h), c)
noncomputable def zz56_l4 : ((Int × (Str × ((List Int) × (List Int)))) × (List Int)) → Option ((((List Int) × (List Int)) × (List Int))) := fixO (B := fun _ => (((List Int) × (List Int)) × (List Int))) zz56_l4F
theorem zz56_l4_eq (q : ((Int × (Str × ((List Int) × (List Int)))) × (List Int))) : zz56_l4 q = zz56_l4F zz56_l4 q := fixO_eq (B := fun _ => (((List Int) × (List Int)) × (List Int))) (fun ((t, s, keys, h), c) => (.ite (.bind (.const _) fun _ => (.ite (.app _) (.const _))) (.const _))) q
noncomputable def zz76_l4F (self : (Int × (Int × (Int × Int))) → Option ((Int × (Int × Int)))) : (Int × (Int × (Int × Int))) → Option ((Int × (Int × Int))) := fun (i, p, x1, n) =>
 if (decide (i < n)) then (self ((IntKind.wrap .i64 (i + (1 : Int))), ((IntKind.wrap .u32 ((2 : Int) * p)), (x1, n)))) else
 some (p, (x1, n))
noncomputable def zz76_l4 : (Int × (Int × (Int × Int))) → Option ((Int × (Int × Int))) := fixO (B := fun _ => (Int × (Int × Int))) zz76_l4F
theorem zz76_l4_eq (q : (Int × (Int × (Int × Int)))) : zz76_l4 q = zz76_l4F zz76_l4 q := fixO_eq (B := fun _ => (Int × (Int × Int))) (fun (i, p, x1, n) => (.ite (.app _) (.const _))) q
noncomputable def zz76_l11F (self : (Int × (Int × (Int × Int))) → Option ((Int × (Int × Int)))) : (Int × (Int × (Int × Int))) → Option ((Int × (Int × Int))) := fun (i, q, p, x1) =>
 if (decide (i < (32 : Int))) then (self ((IntKind.wrap .i64 (i + (1 : Int))), ((IntKind.wrap .u32 ((2 : Int) * q)), (p, x1)))) else
 some (q, (p, x1))
noncomputable def zz76_l11 : (Int × (Int × (Int × Int))) → Option ((Int × (Int × Int))) := fixO (B := fun _ => (Int × (Int × Int))) zz76_l11F
theorem zz76_l11_eq (q : (Int × (Int × (Int × Int)))) : zz76_l11 q = zz76_l11F zz76_l11 q := fixO_eq (B := fun _ => (Int × (Int × Int))) (fun (i, q, p, x1) => (.ite (.app _) (.const _))) q
noncomputable def zz76 : (Int × Int) → Option (Int) := fun (x1, n) =>
 zz76_l4 ((0 : Int), ((1 : Int), (x1, n))) >>= fun r =>
 zz76_l11 (r.2.2, ((1 : Int), (r.1, r.2.1))) >>= fun r1 =>
 if (r1.2.1 ≠ (0 : Int)) then
 if (r1.2.1 ≠ (0 : Int)) then
 some (IntKind.wrap .u32 ((IntKind.wrap .u32 (Int.tdiv r1.2.2 r1.2.1)) + (IntKind.wrap .u32 ((Int.tmod r1.2.2 r1.2.1) * r1.1)))) else none else none
noncomputable def zz56_l17F (self : ((Int × ((List Int) × (List Int))) × (List Int)) → Option ((((List Int) × (List Int)) × (List Int)))) : ((Int × ((List Int) × (List Int))) × (List Int)) → Option ((((List Int) × (List Int)) × (List Int))) := fun ((t, keys, h), c) =>
 if (decide (t < (64 : Int))) then (if ((0 : Int) ≤ (IntKind.wrap .i64 (t - (15 : Int)))) then
 if ((IntKind.wrap .i64 (t - (15 : Int))) < (c.length : Int)) then
 if ((IntKind.wrap .i64 (t - (15 : Int))).toNat < c.length) then
 if ((0 : Int) ≤ (IntKind.wrap .i64 (t - (2 : Int)))) then
 if ((IntKind.wrap .i64 (t - (2 : Int))) < (c.length : Int)) then
 if ((IntKind.wrap .i64 (t - (2 : Int))).toNat < c.length) then
 zz76 ((elt (.int .u32) c (IntKind.wrap .i64 (t - (15 : Int))).toNat), (7 : Int)) >>= fun t1 =>
 zz76 ((elt (.int .u32) c (IntKind.wrap .i64 (t - (15 : Int))).toNat), (18 : Int)) >>= fun t2 =>
 zz76 ((elt (.int .u32) c (IntKind.wrap .i64 (t - (2 : Int))).toNat), (17 : Int)) >>= fun t3 =>
 zz76 ((elt (.int .u32) c (IntKind.wrap .i64 (t - (2 : Int))).toNat), (19 : Int)) >>= fun t4 =>
 if ((0 : Int) ≤ (IntKind.wrap .i64 (t - (7 : Int)))) then
 if ((IntKind.wrap .i64 (t - (7 : Int))) < (c.length : Int)) then
 if ((IntKind.wrap .i64 (t - (7 : Int))).toNat < c.length) then
 if ((0 : Int) ≤ (IntKind.wrap .i64 (t - (16 : Int)))) then
 if ((IntKind.wrap .i64 (t - (16 : Int))) < (c.length : Int)) then
 if ((IntKind.wrap .i64 (t - (16 : Int))).toNat < c.length) then
 if (sumOk (c.length + [(IntKind.wrap .u32 ((IntKind.wrap .u32 ((IntKind.wrap .u32 ((ixor .u32 (ixor .u32 t3 t4) (IntKind.wrap .u32 (Int.tdiv (elt (.int .u32) c (IntKind.wrap .i64 (t - (2 : Int))).toNat) (1024 : Int)))) + (elt (.int .u32) c (IntKind.wrap .i64 (t - (7 : Int))).toNat))) + (ixor .u32 (ixor .u32 t1 t2) (IntKind.wrap .u32 (Int.tdiv (elt (.int .u32) c (IntKind.wrap .i64 (t - (15 : Int))).toNat) (8 : Int)))))) + (elt (.int .u32) c (IntKind.wrap .i64 (t - (16 : Int))).toNat)))].length) 4) then
 self (((IntKind.wrap .i64 (t + (1 : Int))), (keys, h)), (c ++ [(IntKind.wrap .u32 ((IntKind.wrap .u32 ((IntKind.wrap .u32 ((ixor .u32 (ixor .u32 t3 t4) (IntKind.wrap .u32 (Int.tdiv (elt (.int .u32) c (IntKind.wrap .i64 (t - (2 : Int))).toNat) (1024 : Int)))) + (elt (.int .u32) c (IntKind.wrap .i64 (t - (7 : Int))).toNat))) + (ixor .u32 (ixor .u32 t1 t2) (IntKind.wrap .u32 (Int.tdiv (elt (.int .u32) c (IntKind.wrap .i64 (t - (15 : Int))).toNat) (8 : Int)))))) + (elt (.int .u32) c (IntKind.wrap .i64 (t - (16 : Int))).toNat)))])) else none else none else none else none else none else none else none else none else none else none else none else none else none) else
 some ((keys, h), c)
noncomputable def zz56_l17 : ((Int × ((List Int) × (List Int))) × (List Int)) → Option ((((List Int) × (List Int)) × (List Int))) := fixO (B := fun _ => (((List Int) × (List Int)) × (List Int))) zz56_l17F
theorem zz56_l17_eq (q : ((Int × ((List Int) × (List Int))) × (List Int))) : zz56_l17 q = zz56_l17F zz56_l17 q := fixO_eq (B := fun _ => (((List Int) × (List Int)) × (List Int))) (fun ((t, keys, h), c) => (.ite (.ite (.ite (.ite (.ite (.ite (.ite (.bind (.const _) fun _ => (.bind (.const _) fun _ => (.bind (.const _) fun _ => (.bind (.const _) fun _ => (.ite (.ite (.ite (.ite (.ite (.ite (.ite (.app _) (.const _)) (.const _)) (.const _)) (.const _)) (.const _)) (.const _)) (.const _)))))) (.const _)) (.const _)) (.const _)) (.const _)) (.const _)) (.const _)) (.const _))) q
noncomputable def zz75 : ((List Int) × (Int × Int)) → Option ((List Int)) := fun (v, k, w) =>
 if ((4 : Int) < (v.length : Int)) then
 if ((0 : Int) < (v.length : Int)) then
 zz76 ((elt (.int .u32) v 4), (6 : Int)) >>= fun t =>
 zz76 ((elt (.int .u32) v 4), (11 : Int)) >>= fun t1 =>
 zz76 ((elt (.int .u32) v 4), (25 : Int)) >>= fun t2 =>
 if ((5 : Int) < (v.length : Int)) then
 if ((6 : Int) < (v.length : Int)) then
 if ((7 : Int) < (v.length : Int)) then
 zz76 ((elt (.int .u32) v 0), (2 : Int)) >>= fun t3 =>
 zz76 ((elt (.int .u32) v 0), (13 : Int)) >>= fun t4 =>
 zz76 ((elt (.int .u32) v 0), (22 : Int)) >>= fun t5 =>
 if ((1 : Int) < (v.length : Int)) then
 if ((2 : Int) < (v.length : Int)) then
 if ((1 : Int) < (v.length : Int)) then
 if ((2 : Int) < (v.length : Int)) then
 if ((1 : Int) < (v.length : Int)) then
 if ((2 : Int) < (v.length : Int)) then
 if ((3 : Int) < (v.length : Int)) then
 if ((5 : Int) < (v.length : Int)) then
 if ((6 : Int) < (v.length : Int)) then
 some [(IntKind.wrap .u32 ((IntKind.wrap .u32 ((IntKind.wrap .u32 ((IntKind.wrap .u32 ((IntKind.wrap .u32 ((IntKind.wrap .u32 ((elt (.int .u32) v 7) + (ixor .u32 (ixor .u32 t t1) t2))) + (ixor .u32 (iand .u32 (elt (.int .u32) v 4) (elt (.int .u32) v 5)) (iand .u32 (IntKind.wrap .u32 ((4294967295 : Int) - (elt (.int .u32) v 4))) (elt (.int .u32) v 6))))) + k)) + w)) + (ixor .u32 (ixor .u32 t3 t4) t5))) + (ixor .u32 (ixor .u32 (iand .u32 (elt (.int .u32) v 0) (elt (.int .u32) v 1)) (iand .u32 (elt (.int .u32) v 0) (elt (.int .u32) v 2))) (iand .u32 (elt (.int .u32) v 1) (elt (.int .u32) v 2))))), (elt (.int .u32) v 0), (elt (.int .u32) v 1), (elt (.int .u32) v 2), (IntKind.wrap .u32 ((elt (.int .u32) v 3) + (IntKind.wrap .u32 ((IntKind.wrap .u32 ((IntKind.wrap .u32 ((IntKind.wrap .u32 ((elt (.int .u32) v 7) + (ixor .u32 (ixor .u32 t t1) t2))) + (ixor .u32 (iand .u32 (elt (.int .u32) v 4) (elt (.int .u32) v 5)) (iand .u32 (IntKind.wrap .u32 ((4294967295 : Int) - (elt (.int .u32) v 4))) (elt (.int .u32) v 6))))) + k)) + w)))), (elt (.int .u32) v 4), (elt (.int .u32) v 5), (elt (.int .u32) v 6)] else none else none else none else none else none else none else none else none else none else none else none else none else none else none
noncomputable def zz56_l28F (self : ((Int × ((List Int) × ((List Int) × (List Int)))) × (List Int)) → Option (((List Int) × (List Int)))) : ((Int × ((List Int) × ((List Int) × (List Int)))) × (List Int)) → Option (((List Int) × (List Int))) := fun ((t, keys, v, h), c) =>
 if (decide (t < (64 : Int))) then (if ((0 : Int) ≤ t) then
 if (t < (keys.length : Int)) then
 if ((0 : Int) ≤ t) then
 if (t < (c.length : Int)) then
 if (t.toNat < c.length) then
 zz75 (v, ((elt (.int .u32) keys t.toNat), (elt (.int .u32) c t.toNat))) >>= fun s =>
 self (((IntKind.wrap .i64 (t + (1 : Int))), (keys, (s, h))), c) else none else none else none else none else none) else
 some (v, h)
noncomputable def zz56_l28 : ((Int × ((List Int) × ((List Int) × (List Int)))) × (List Int)) → Option (((List Int) × (List Int))) := fixO (B := fun _ => ((List Int) × (List Int))) zz56_l28F
theorem zz56_l28_eq (q : ((Int × ((List Int) × ((List Int) × (List Int)))) × (List Int))) : zz56_l28 q = zz56_l28F zz56_l28 q := fixO_eq (B := fun _ => ((List Int) × (List Int))) (fun ((t, keys, v, h), c) => (.ite (.ite (.ite (.ite (.ite (.ite (.bind (.const _) fun _ => (.app _)) (.const _)) (.const _)) (.const _)) (.const _)) (.const _)) (.const _))) q
noncomputable def zz56_l35F (self : ((Int × ((List Int) × (List Int))) × (List Int)) → Option ((List Int))) : ((Int × ((List Int) × (List Int))) × (List Int)) → Option ((List Int)) := fun ((i, v, h), c) =>
 if (decide (i < (8 : Int))) then (if ((0 : Int) ≤ i) then
 if (i < (h.length : Int)) then
 if ((0 : Int) ≤ i) then
 if (i < (v.length : Int)) then
 if (sumOk (c.length + [(IntKind.wrap .u32 ((elt (.int .u32) h i.toNat) + (elt (.int .u32) v i.toNat)))].length) 4) then
 self (((IntKind.wrap .i64 (i + (1 : Int))), (v, h)), (c ++ [(IntKind.wrap .u32 ((elt (.int .u32) h i.toNat) + (elt (.int .u32) v i.toNat)))])) else none else none else none else none else none) else
 some c
noncomputable def zz56_l35 : ((Int × ((List Int) × (List Int))) × (List Int)) → Option ((List Int)) := fixO (B := fun _ => (List Int)) zz56_l35F
theorem zz56_l35_eq (q : ((Int × ((List Int) × (List Int))) × (List Int))) : zz56_l35 q = zz56_l35F zz56_l35 q := fixO_eq (B := fun _ => (List Int)) (fun ((i, v, h), c) => (.ite (.ite (.ite (.ite (.ite (.ite (.app _) (.const _)) (.const _)) (.const _)) (.const _)) (.const _)) (.const _))) q
noncomputable def zz56 : ((List Int) × ((List Int) × Str)) → Option ((List Int)) := fun (h, keys, s) =>
 zz56_l4 (((0 : Int), (s, (keys, h))), []) >>= fun r =>
 zz56_l17 (((16 : Int), r.1), r.2) >>= fun r1 =>
 zz56_l28 (((0 : Int), (r1.1.1, (r1.1.2, r1.1.2))), r1.2) >>= fun r2 =>
 zz56_l35 (((0 : Int), r2), []) >>= fun r3 =>
 some r3
noncomputable def zz89_l20F (self : ((Int × ((List Int) × (List Int))) × (List Int)) → Option ((List Int))) : ((Int × ((List Int) × (List Int))) × (List Int)) → Option ((List Int)) := fun ((at1, keys, h), c) =>
 if (decide (at1 < (c.length : Int))) then (if ((0 : Int) ≤ at1) then
 if (at1 ≤ (IntKind.wrap .i64 (at1 + (64 : Int)))) then
 if ((IntKind.wrap .i64 (at1 + (64 : Int))) ≤ (c.length : Int)) then
 zz56 (h, (keys, (bytesStr (List.drop at1.toNat (List.take (IntKind.wrap .i64 (at1 + (64 : Int))).toNat c))))) >>= fun b =>
 self (((IntKind.wrap .i64 (at1 + (64 : Int))), (keys, b)), c) else none else none else none) else
 some h
noncomputable def zz89_l20 : ((Int × ((List Int) × (List Int))) × (List Int)) → Option ((List Int)) := fixO (B := fun _ => (List Int)) zz89_l20F
theorem zz89_l20_eq (q : ((Int × ((List Int) × (List Int))) × (List Int))) : zz89_l20 q = zz89_l20F zz89_l20 q := fixO_eq (B := fun _ => (List Int)) (fun ((at1, keys, h), c) => (.ite (.ite (.ite (.ite (.bind (.const _) fun _ => (.app _)) (.const _)) (.const _)) (.const _)) (.const _))) q
noncomputable def zz89_l27F (self : ((Int × ((List Int) × Int)) × (List Int)) → Option ((List Int))) : ((Int × ((List Int) × Int)) × (List Int)) → Option ((List Int)) := fun ((x63, x61, x62), c) =>
 if (decide (x63 < x62)) then (if ((0 : Int) ≤ x63) then
 if (x63 < (x61.length : Int)) then
 if (sumOk (c.length + [(IntKind.wrap .u8 (IntKind.wrap .u32 (Int.tdiv (elt (.int .u32) x61 x63.toNat) (16777216 : Int)))), (IntKind.wrap .u8 (Int.tmod (IntKind.wrap .u32 (Int.tdiv (elt (.int .u32) x61 x63.toNat) (65536 : Int))) (256 : Int))), (IntKind.wrap .u8 (Int.tmod (IntKind.wrap .u32 (Int.tdiv (elt (.int .u32) x61 x63.toNat) (256 : Int))) (256 : Int))), (IntKind.wrap .u8 (Int.tmod (elt (.int .u32) x61 x63.toNat) (256 : Int)))].length) 1) then
 self (((IntKind.wrap .i64 (x63 + (1 : Int))), (x61, x62)), (c ++ [(IntKind.wrap .u8 (IntKind.wrap .u32 (Int.tdiv (elt (.int .u32) x61 x63.toNat) (16777216 : Int)))), (IntKind.wrap .u8 (Int.tmod (IntKind.wrap .u32 (Int.tdiv (elt (.int .u32) x61 x63.toNat) (65536 : Int))) (256 : Int))), (IntKind.wrap .u8 (Int.tmod (IntKind.wrap .u32 (Int.tdiv (elt (.int .u32) x61 x63.toNat) (256 : Int))) (256 : Int))), (IntKind.wrap .u8 (Int.tmod (elt (.int .u32) x61 x63.toNat) (256 : Int)))])) else none else none else none) else
 some c
noncomputable def zz89_l27 : ((Int × ((List Int) × Int)) × (List Int)) → Option ((List Int)) := fixO (B := fun _ => (List Int)) zz89_l27F
theorem zz89_l27_eq (q : ((Int × ((List Int) × Int)) × (List Int))) : zz89_l27 q = zz89_l27F zz89_l27 q := fixO_eq (B := fun _ => (List Int)) (fun ((x63, x61, x62), c) => (.ite (.ite (.ite (.ite (.app _) (.const _)) (.const _)) (.const _)) (.const _))) q
noncomputable def zz89 : Str → Option (Str) := fun s =>
 if (sumOk ((strBytes s).length + [(128 : Int)].length) 1) then
 zz89_l5 ((IntKind.wrap .u64 ((IntKind.wrap .u64 (s.length : Int)) * (8 : Int))), ((strBytes s) ++ [(128 : Int)])) >>= fun r =>
 zz89_l11 (((0 : Int), ((72057594037927936 : Int), r.1)), r.2) >>= fun r1 =>
 zz57 () >>= fun f =>
 zz74 () >>= fun k =>
 zz89_l20 (((0 : Int), (k, f)), r1) >>= fun r2 =>
 zz89_l27 (((0 : Int), (r2, (r2.length : Int))), []) >>= fun r3 =>
 some (bytesStr r3) else none
noncomputable def zz81_l3F (self : (Int × (Str × ((List (Str × Str)) × Int))) → Option ((Str × Int) ⊕ Unit)) : (Int × (Str × ((List (Str × Str)) × Int))) → Option ((Str × Int) ⊕ Unit) := fun (x12, digest, x10, x11) =>
 if (decide (x12 < x11)) then (if ((0 : Int) ≤ x12) then
 if (x12 < (x10.length : Int)) then
 if ((elt (.pair .str .str) x10 x12.toNat).1 != digest) then (self ((IntKind.wrap .i64 (x12 + (1 : Int))), (digest, (x10, x11)))) else
 zz58 digest >>= fun p =>
 if (!p.2) then some (.inl ([], (10 : Int))) else
 zz89 (elt (.pair .str .str) x10 x12.toNat).2 >>= fun s =>
 if (s != p.1) then some (.inl ([], (10 : Int))) else
 some (.inl ((elt (.pair .str .str) x10 x12.toNat).2, (0 : Int))) else none else none) else
 some (.inr ())
noncomputable def zz81_l3 : (Int × (Str × ((List (Str × Str)) × Int))) → Option ((Str × Int) ⊕ Unit) := fixO (B := fun _ => (Str × Int) ⊕ Unit) zz81_l3F
theorem zz81_l3_eq (q : (Int × (Str × ((List (Str × Str)) × Int)))) : zz81_l3 q = zz81_l3F zz81_l3 q := fixO_eq (B := fun _ => (Str × Int) ⊕ Unit) (fun (x12, digest, x10, x11) => (.ite (.ite (.ite (.ite (.app _) (.const _)) (.const _)) (.const _)) (.const _))) q
noncomputable def zz81 : ((List (Str × Str)) × Str) → Option ((Str × Int)) := fun (l, digest) =>
 zz81_l3 ((0 : Int), (digest, (l, (l.length : Int)))) >>= fun r =>
 Sum.elim (fun r1 => some r1) (fun r1 => some ([], (9 : Int))) r
noncomputable def zz94_l3F (self : (Int × (Str × ((List Str) × Int))) → Option (Bool ⊕ Unit)) : (Int × (Str × ((List Str) × Int))) → Option (Bool ⊕ Unit) := fun (x9, s, x7, x8) =>
 if (decide (x9 < x8)) then (if ((0 : Int) ≤ x9) then
 if (x9 < (x7.length : Int)) then
 if ((elt .str x7 x9.toNat) == s) then some (.inl true) else
 self ((IntKind.wrap .i64 (x9 + (1 : Int))), (s, (x7, x8))) else none else none) else
 some (.inr ())
noncomputable def zz94_l3 : (Int × (Str × ((List Str) × Int))) → Option (Bool ⊕ Unit) := fixO (B := fun _ => Bool ⊕ Unit) zz94_l3F
theorem zz94_l3_eq (q : (Int × (Str × ((List Str) × Int)))) : zz94_l3 q = zz94_l3F zz94_l3 q := fixO_eq (B := fun _ => Bool ⊕ Unit) (fun (x9, s, x7, x8) => (.ite (.ite (.ite (.ite (.const _) (.app _)) (.const _)) (.const _)) (.const _))) q
noncomputable def zz94 : ((List Str) × Str) → Option (Bool) := fun (l, s) =>
 zz94_l3 ((0 : Int), (s, (l, (l.length : Int)))) >>= fun r =>
 Sum.elim (fun r1 => some r1) (fun r1 => some false) r
noncomputable def zz37_l25F (self : ((Int × ((List Str) × (Str × Int))) × (Int × (Int × ((List Str) × (List Str))))) → Option ((Str × (Int × (Int × ((List Str) × (List Str))))))) : ((Int × ((List Str) × (Str × Int))) × (Int × (Int × ((List Str) × (List Str))))) → Option ((Str × (Int × (Int × ((List Str) × (List Str)))))) := fun ((x66, x64, digest, x65), c, c1, c2, c3) =>
 if (decide (x66 < x65)) then (if ((0 : Int) ≤ x66) then
 if (x66 < (x64.length : Int)) then
 zz94 (c3, (elt .str x64 x66.toNat)) >>= fun h =>
 if (!h) then (if (sumOk (c3.length + [(elt .str x64 x66.toNat)].length) 16) then
 self (((IntKind.wrap .i64 (x66 + (1 : Int))), (x64, (digest, x65))), (c, (c1, (c2, (c3 ++ [(elt .str x64 x66.toNat)]))))) else none) else
 self (((IntKind.wrap .i64 (x66 + (1 : Int))), (x64, (digest, x65))), (c, (c1, (c2, c3)))) else none else none) else
 some (digest, (c1, (c, (c2, c3))))
noncomputable def zz37_l25 : ((Int × ((List Str) × (Str × Int))) × (Int × (Int × ((List Str) × (List Str))))) → Option ((Str × (Int × (Int × ((List Str) × (List Str)))))) := fixO (B := fun _ => (Str × (Int × (Int × ((List Str) × (List Str)))))) zz37_l25F
theorem zz37_l25_eq (q : ((Int × ((List Str) × (Str × Int))) × (Int × (Int × ((List Str) × (List Str)))))) : zz37_l25 q = zz37_l25F zz37_l25 q := fixO_eq (B := fun _ => (Str × (Int × (Int × ((List Str) × (List Str)))))) (fun ((x66, x64, digest, x65), c, c1, c2, c3) => (.ite (.ite (.ite (.bind (.const _) fun _ => (.ite (.ite (.app _) (.const _)) (.app _))) (.const _)) (.const _)) (.const _))) q
abbrev zz37GA := (((List (Str × Str)) × (Int × (Str × Int))) × ((List Str) × (List Str))) ⊕ ((Int × (Int × ((List (Str × Str)) × ((List Str) × (Str × Int))))) × (Int × (Int × ((Bool × (Str × ((List (Str × Int)) × (List Str)))) × ((List Str) × (List Str))))))
abbrev zz37GB : zz37GA → Type
 | (.inl _) => (Int × ((List Str) × (List Str)))
 | (.inr _) => (Int × ((List Str) × (List Str))) ⊕ (Str × (Int × (Int × ((Bool × (Str × ((List (Str × Int)) × (List Str)))) × ((List Str) × (List Str))))))
noncomputable def zz37F (zz37 : (((List (Str × Str)) × (Int × (Str × Int))) × ((List Str) × (List Str))) → Option ((Int × ((List Str) × (List Str))))) (zz37_l14 : ((Int × (Int × ((List (Str × Str)) × ((List Str) × (Str × Int))))) × (Int × (Int × ((Bool × (Str × ((List (Str × Int)) × (List Str)))) × ((List Str) × (List Str)))))) → Option ((Int × ((List Str) × (List Str))) ⊕ (Str × (Int × (Int × ((Bool × (Str × ((List (Str × Int)) × (List Str)))) × ((List Str) × (List Str)))))))) : (((List (Str × Str)) × (Int × (Str × Int))) × ((List Str) × (List Str))) → Option ((Int × ((List Str) × (List Str)))) := fun ((l, t, digest, depth), c, c1) =>
 if (decide (depth > (4 : Int))) then some ((7 : Int), ([], [])) else
 zz81 (l, digest) >>= fun f =>
 if (f.2 != (0 : Int)) then some (f.2, ([], [])) else
 zz64 f.1 >>= fun p =>
 if (p.2 != (0 : Int)) then some (p.2, ([], [])) else
 zz37_l14 (((0 : Int), (depth, (l, (p.1.2.2.2, (digest, (p.1.2.2.2.length : Int)))))), ((0 : Int), (t, (p.1, (c, c1))))) >>= fun r =>
 Sum.elim (fun r1 => some r1) (fun r1 => zz63 r1.2.2.2.1 >>= fun b =>
 zz37_l25 (((0 : Int), (b, (r1.1, (b.length : Int)))), (r1.2.1, (r1.2.2.1, r1.2.2.2.2))) >>= fun r2 =>
 if (sumOk (r2.2.2.2.1.length + [r2.1].length) 16) then
 some (r2.2.2.1, ((r2.2.2.2.1 ++ [r2.1]), r2.2.2.2.2)) else none) r
noncomputable def zz37_l14F (zz37 : (((List (Str × Str)) × (Int × (Str × Int))) × ((List Str) × (List Str))) → Option ((Int × ((List Str) × (List Str))))) (zz37_l14 : ((Int × (Int × ((List (Str × Str)) × ((List Str) × (Str × Int))))) × (Int × (Int × ((Bool × (Str × ((List (Str × Int)) × (List Str)))) × ((List Str) × (List Str)))))) → Option ((Int × ((List Str) × (List Str))) ⊕ (Str × (Int × (Int × ((Bool × (Str × ((List (Str × Int)) × (List Str)))) × ((List Str) × (List Str)))))))) : ((Int × (Int × ((List (Str × Str)) × ((List Str) × (Str × Int))))) × (Int × (Int × ((Bool × (Str × ((List (Str × Int)) × (List Str)))) × ((List Str) × (List Str)))))) → Option ((Int × ((List Str) × (List Str))) ⊕ (Str × (Int × (Int × ((Bool × (Str × ((List (Str × Int)) × (List Str)))) × ((List Str) × (List Str))))))) := fun ((x42, depth, l, x40, digest, x41), c, c1, c2, c3, c4) =>
 if (decide (x42 < x41)) then (if ((0 : Int) ≤ x42) then
 if (x42 < (x40.length : Int)) then
 zz94 (c3, (elt .str x40 x42.toNat)) >>= fun h =>
 if (!h) then (zz37 ((l, (c1, ((elt .str x40 x42.toNat), (IntKind.wrap .i64 (depth + (1 : Int)))))), (c3, c4)) >>= fun k =>
 if (k.1 != (0 : Int)) then some (.inl k) else
 zz37_l14 (((IntKind.wrap .i64 (x42 + (1 : Int))), (depth, (l, (x40, (digest, x41))))), (c, (k.1, (c2, k.2))))) else
 zz37_l14 (((IntKind.wrap .i64 (x42 + (1 : Int))), (depth, (l, (x40, (digest, x41))))), (c, (c1, (c2, (c3, c4))))) else none else none) else
 some (.inr (digest, (c1, (c, (c2, (c3, c4))))))
noncomputable def zz37GF (u : ∀ a, Option (zz37GB a)) : ∀ a, Option (zz37GB a)
 | (.inl q) => zz37F (fun q => u (.inl q)) (fun q => u (.inr q)) q
 | (.inr q) => zz37_l14F (fun q => u (.inl q)) (fun q => u (.inr q)) q
noncomputable def zz37 (q : (((List (Str × Str)) × (Int × (Str × Int))) × ((List Str) × (List Str)))) : Option ((Int × ((List Str) × (List Str)))) := fixO zz37GF (.inl q)
noncomputable def zz37_l14 (q : ((Int × (Int × ((List (Str × Str)) × ((List Str) × (Str × Int))))) × (Int × (Int × ((Bool × (Str × ((List (Str × Int)) × (List Str)))) × ((List Str) × (List Str))))))) : Option ((Int × ((List Str) × (List Str))) ⊕ (Str × (Int × (Int × ((Bool × (Str × ((List (Str × Int)) × (List Str)))) × ((List Str) × (List Str))))))) := fixO zz37GF (.inr q)
theorem zz37Gc : ∀ a, Cont fun u => zz37GF u a
 | (.inl ((l, t, digest, depth), c, c1)) => by unfold zz37GF zz37F; exact (.ite (.const _) (.bind (.const _) fun _ => (.ite (.const _) (.bind (.const _) fun _ => (.ite (.const _) (.bind (.app _) fun _ => (.const _)))))))
 | (.inr ((x42, depth, l, x40, digest, x41), c, c1, c2, c3, c4)) => by unfold zz37GF zz37_l14F; exact (.ite (.ite (.ite (.bind (.const _) fun _ => (.ite (.bind (.app _) fun _ => (.ite (.const _) (.app _))) (.app _))) (.const _)) (.const _)) (.const _))
theorem zz37_eq (q : (((List (Str × Str)) × (Int × (Str × Int))) × ((List Str) × (List Str)))) : zz37 q = zz37F zz37 zz37_l14 q := fixO_eq zz37Gc (.inl q)
theorem zz37_l14_eq (q : ((Int × (Int × ((List (Str × Str)) × ((List Str) × (Str × Int))))) × (Int × (Int × ((Bool × (Str × ((List (Str × Int)) × (List Str)))) × ((List Str) × (List Str))))))) : zz37_l14 q = zz37_l14F zz37 zz37_l14 q := fixO_eq zz37Gc (.inr q)
noncomputable def zz36_l14F (self : ((Int × (Int × ((List (Str × Str)) × ((List Str) × (Str × Int))))) × (Int × (Int × ((Bool × (Str × ((List (Str × Int)) × (List Str)))) × ((List Str) × (List Str)))))) → Option ((Int × ((List Str) × (List Str))) ⊕ (Str × (Int × (Int × ((Bool × (Str × ((List (Str × Int)) × (List Str)))) × ((List Str) × (List Str)))))))) : ((Int × (Int × ((List (Str × Str)) × ((List Str) × (Str × Int))))) × (Int × (Int × ((Bool × (Str × ((List (Str × Int)) × (List Str)))) × ((List Str) × (List Str)))))) → Option ((Int × ((List Str) × (List Str))) ⊕ (Str × (Int × (Int × ((Bool × (Str × ((List (Str × Int)) × (List Str)))) × ((List Str) × (List Str))))))) := fun ((x42, depth, l, x40, digest, x41), c, c1, c2, c3, c4) =>
 if (decide (x42 < x41)) then (if ((0 : Int) ≤ x42) then
 if (x42 < (x40.length : Int)) then
 zz94 (c3, (elt .str x40 x42.toNat)) >>= fun h =>
 if (!h) then (zz37 ((l, (c1, ((elt .str x40 x42.toNat), (IntKind.wrap .i64 (depth + (1 : Int)))))), (c3, c4)) >>= fun k =>
 if (k.1 != (0 : Int)) then some (.inl k) else
 self (((IntKind.wrap .i64 (x42 + (1 : Int))), (depth, (l, (x40, (digest, x41))))), (c, (k.1, (c2, k.2))))) else
 self (((IntKind.wrap .i64 (x42 + (1 : Int))), (depth, (l, (x40, (digest, x41))))), (c, (c1, (c2, (c3, c4))))) else none else none) else
 some (.inr (digest, (c1, (c, (c2, (c3, c4))))))
noncomputable def zz36_l14 : ((Int × (Int × ((List (Str × Str)) × ((List Str) × (Str × Int))))) × (Int × (Int × ((Bool × (Str × ((List (Str × Int)) × (List Str)))) × ((List Str) × (List Str)))))) → Option ((Int × ((List Str) × (List Str))) ⊕ (Str × (Int × (Int × ((Bool × (Str × ((List (Str × Int)) × (List Str)))) × ((List Str) × (List Str))))))) := fixO (B := fun _ => (Int × ((List Str) × (List Str))) ⊕ (Str × (Int × (Int × ((Bool × (Str × ((List (Str × Int)) × (List Str)))) × ((List Str) × (List Str))))))) zz36_l14F
theorem zz36_l14_eq (q : ((Int × (Int × ((List (Str × Str)) × ((List Str) × (Str × Int))))) × (Int × (Int × ((Bool × (Str × ((List (Str × Int)) × (List Str)))) × ((List Str) × (List Str))))))) : zz36_l14 q = zz36_l14F zz36_l14 q := fixO_eq (B := fun _ => (Int × ((List Str) × (List Str))) ⊕ (Str × (Int × (Int × ((Bool × (Str × ((List (Str × Int)) × (List Str)))) × ((List Str) × (List Str))))))) (fun ((x42, depth, l, x40, digest, x41), c, c1, c2, c3, c4) => (.ite (.ite (.ite (.bind (.const _) fun _ => (.ite (.bind (.const _) fun _ => (.ite (.const _) (.app _))) (.app _))) (.const _)) (.const _)) (.const _))) q
noncomputable def zz36_l25F (self : ((Int × ((List Str) × (Str × Int))) × (Int × (Int × ((List Str) × (List Str))))) → Option ((Str × (Int × (Int × ((List Str) × (List Str))))))) : ((Int × ((List Str) × (Str × Int))) × (Int × (Int × ((List Str) × (List Str))))) → Option ((Str × (Int × (Int × ((List Str) × (List Str)))))) := fun ((x66, x64, digest, x65), c, c1, c2, c3) =>
 if (decide (x66 < x65)) then (if ((0 : Int) ≤ x66) then
 if (x66 < (x64.length : Int)) then
 zz94 (c3, (elt .str x64 x66.toNat)) >>= fun h =>
 if (!h) then (if (sumOk (c3.length + [(elt .str x64 x66.toNat)].length) 16) then
 self (((IntKind.wrap .i64 (x66 + (1 : Int))), (x64, (digest, x65))), (c, (c1, (c2, (c3 ++ [(elt .str x64 x66.toNat)]))))) else none) else
 self (((IntKind.wrap .i64 (x66 + (1 : Int))), (x64, (digest, x65))), (c, (c1, (c2, c3)))) else none else none) else
 some (digest, (c1, (c, (c2, c3))))
noncomputable def zz36_l25 : ((Int × ((List Str) × (Str × Int))) × (Int × (Int × ((List Str) × (List Str))))) → Option ((Str × (Int × (Int × ((List Str) × (List Str)))))) := fixO (B := fun _ => (Str × (Int × (Int × ((List Str) × (List Str)))))) zz36_l25F
theorem zz36_l25_eq (q : ((Int × ((List Str) × (Str × Int))) × (Int × (Int × ((List Str) × (List Str)))))) : zz36_l25 q = zz36_l25F zz36_l25 q := fixO_eq (B := fun _ => (Str × (Int × (Int × ((List Str) × (List Str)))))) (fun ((x66, x64, digest, x65), c, c1, c2, c3) => (.ite (.ite (.ite (.bind (.const _) fun _ => (.ite (.ite (.app _) (.const _)) (.app _))) (.const _)) (.const _)) (.const _))) q
noncomputable def zz36 : ((List (Str × Str)) × (Int × (Str × Int))) → Option ((Int × ((List Str) × (List Str)))) := fun (l, t, digest, depth) =>
 if (decide (depth > (4 : Int))) then some ((7 : Int), ([], [])) else
 zz81 (l, digest) >>= fun f =>
 if (f.2 != (0 : Int)) then some (f.2, ([], [])) else
 zz64 f.1 >>= fun p =>
 if (p.2 != (0 : Int)) then some (p.2, ([], [])) else
 zz36_l14 (((0 : Int), (depth, (l, (p.1.2.2.2, (digest, (p.1.2.2.2.length : Int)))))), ((0 : Int), (t, (p.1, ([], []))))) >>= fun r =>
 Sum.elim (fun r1 => some r1) (fun r1 => zz63 r1.2.2.2.1 >>= fun b =>
 zz36_l25 (((0 : Int), (b, (r1.1, (b.length : Int)))), (r1.2.1, (r1.2.2.1, r1.2.2.2.2))) >>= fun r2 =>
 if (sumOk (r2.2.2.2.1.length + [r2.1].length) 16) then
 some (r2.2.2.1, ((r2.2.2.2.1 ++ [r2.1]), r2.2.2.2.2)) else none) r
noncomputable def zz66_l7F (self : ((Int × ((List (Str × Str)) × Int)) × (List Str)) → Option (Int ⊕ Unit)) : ((Int × ((List (Str × Str)) × Int)) × (List Str)) → Option (Int ⊕ Unit) := fun ((x23, l, x22), c) =>
 if (decide (x23 < x22)) then (if ((0 : Int) ≤ x23) then
 if (x23 < (c.length : Int)) then
 if (x23.toNat < c.length) then
 zz81 (l, (elt .str c x23.toNat)) >>= fun f =>
 if (f.2 != (0 : Int)) then some (.inl f.2) else
 self (((IntKind.wrap .i64 (x23 + (1 : Int))), (l, x22)), c) else none else none else none) else
 some (.inr ())
noncomputable def zz66_l7 : ((Int × ((List (Str × Str)) × Int)) × (List Str)) → Option (Int ⊕ Unit) := fixO (B := fun _ => Int ⊕ Unit) zz66_l7F
theorem zz66_l7_eq (q : ((Int × ((List (Str × Str)) × Int)) × (List Str))) : zz66_l7 q = zz66_l7F zz66_l7 q := fixO_eq (B := fun _ => Int ⊕ Unit) (fun ((x23, l, x22), c) => (.ite (.ite (.ite (.ite (.bind (.const _) fun _ => (.ite (.const _) (.app _))) (.const _)) (.const _)) (.const _)) (.const _))) q
noncomputable def zz66 : ((List (Str × Str)) × Str) → Option (Int) := fun (l, digest) =>
 zz36 (l, ((0 : Int), (digest, (1 : Int)))) >>= fun w =>
 if (w.1 != (0 : Int)) then some w.1 else
 zz66_l7 (((0 : Int), (l, (w.2.2.length : Int))), w.2.2) >>= fun r =>
 Sum.elim (fun r1 => some r1) (fun r1 => some (0 : Int)) r
noncomputable def zz24 : ((List (Str × Str)) × Str) → Option (Bool) := fun (l, d) =>
 zz88 l >>= fun f =>
 zz44 (f, d) >>= fun f1 =>
 zz69 (f, d) >>= fun o =>
 zz81 (f, d) >>= fun f2 =>
 zz36 (f, ((0 : Int), (d, (1 : Int)))) >>= fun w =>
 if (w.1 != (0 : Int)) then (zz52 () >>= fun a =>
 if a then (if (f1.1 == f2.1) then (if (f1.2 == f2.2) then (if (o.2 == w.1) then (zz72 (o.1.1, []) >>= fun s =>
 if s then (zz72 (o.1.2, []) >>= fun s1 =>
 if s1 then (zz40 (f, d) >>= fun w1 =>
 zz66 (f, d) >>= fun w2 =>
 some (w1 == w2)) else
 some false) else
 some false) else
 some false) else
 some false) else
 some false) else
 some false) else
 zz52 () >>= fun a =>
 if a then (if (f1.1 == f2.1) then (if (f1.2 == f2.2) then (if (o.2 == w.1) then (zz72 (o.1.1, w.2.1) >>= fun s =>
 if s then (zz72 (o.1.2, w.2.2) >>= fun s1 =>
 if s1 then (zz40 (f, d) >>= fun w1 =>
 zz66 (f, d) >>= fun w2 =>
 some (w1 == w2)) else
 some false) else
 some false) else
 some false) else
 some false) else
 some false) else
 some false
end Go.Plain
