import Derived.Test.YtichcpbhondhhaaGreatDoorBMLib
import Derived.Test.YtichcpbhondhhaaGreatDoorTKeys
import Derived.Test.YtichcpbhondhhaaGreatDoorT4P
import Derived.Test.YtichcpbhondhhaaGreatDoorM5P
import Derived.Test.YtichcpbhondhhaaGreatDoorN5P
namespace Go.Plain
open Go.AM
set_option linter.unusedVariables false
noncomputable def law06_few_l4F (self : ((Int × Int) × (List (Str × Str))) → Option ((List (Str × Str)))) : ((Int × Int) × (List (Str × Str))) → Option ((List (Str × Str))) := fun ((x14, x13), c) =>
 if (decide (x14 < x13)) then (if ((0 : Int) ≤ x14) then
 if (x14 < (c.length : Int)) then
 if (x14.toNat < c.length) then
 if ((0 : Int) ≤ (min ((elt (.pair .str .str) c x14.toNat).1.length : Int) (80 : Int))) then
 if ((min ((elt (.pair .str .str) c x14.toNat).1.length : Int) (80 : Int)) ≤ ((elt (.pair .str .str) c x14.toNat).1.length : Int)) then
 if ((0 : Int) ≤ (min ((elt (.pair .str .str) c x14.toNat).2.length : Int) (1200 : Int))) then
 if ((min ((elt (.pair .str .str) c x14.toNat).2.length : Int) (1200 : Int)) ≤ ((elt (.pair .str .str) c x14.toNat).2.length : Int)) then
 if ((0 : Int) ≤ x14) then
 if (x14 < (c.length : Int)) then
 if (x14.toNat < c.length) then
 self (((IntKind.wrap .i64 (x14 + (1 : Int))), x13), (List.set c x14.toNat ((List.take (min ((elt (.pair .str .str) c x14.toNat).1.length : Int) (80 : Int)).toNat (elt (.pair .str .str) c x14.toNat).1), (List.take (min ((elt (.pair .str .str) c x14.toNat).2.length : Int) (1200 : Int)).toNat (elt (.pair .str .str) c x14.toNat).2)))) else none else none else none else none else none else none else none else none else none else none) else
 some c
noncomputable def law06_few_l4 : ((Int × Int) × (List (Str × Str))) → Option ((List (Str × Str))) := fixO (B := fun _ => (List (Str × Str))) law06_few_l4F
theorem law06_few_l4_eq (q : ((Int × Int) × (List (Str × Str)))) : law06_few_l4 q = law06_few_l4F law06_few_l4 q := fixO_eq (B := fun _ => (List (Str × Str))) (fun ((x14, x13), c) => (.ite (.ite (.ite (.ite (.ite (.ite (.ite (.ite (.ite (.ite (.ite (.app _) (.const _)) (.const _)) (.const _)) (.const _)) (.const _)) (.const _)) (.const _)) (.const _)) (.const _)) (.const _)) (.const _))) q
noncomputable def law06_few : (List (Str × Str)) → Option ((List (Str × Str))) := fun l =>
 if ((0 : Int) ≤ (min (l.length : Int) (12 : Int))) then
 if ((min (l.length : Int) (12 : Int)) ≤ (l.length : Int)) then
 if (sumOk (0 + (List.take (min (l.length : Int) (12 : Int)).toNat l).length) 32) then
 law06_few_l4 (((0 : Int), ((List.take (min (l.length : Int) (12 : Int)).toNat l).length : Int)), (List.take (min (l.length : Int) (12 : Int)).toNat l)) >>= fun r =>
 some r else none else none else none
noncomputable def closure_Find_1_dua : ((Str × Str) × Str) → Option ((Bool × Str)) := fun (o, c) =>
 some ((o.1 == c), c)
noncomputable def slices_IndexFunc_api_Object_u77_l3F (self : ((Int × ((List (Str × Str)) × Int)) × Str) → Option ((Int × Str) ⊕ Str)) : ((Int × ((List (Str × Str)) × Int)) × Str) → Option ((Int × Str) ⊕ Str) := fun ((x8, s, x7), c) =>
 if (decide (x8 < x7)) then (if ((0 : Int) ≤ x8) then
 if (x8 < (s.length : Int)) then
 closure_Find_1_dua ((elt (.pair .str .str) s x8.toNat), c) >>= fun d =>
 if d.1 then some (.inl (x8, d.2)) else
 self (((IntKind.wrap .i64 (x8 + (1 : Int))), (s, x7)), d.2) else none else none) else
 some (.inr c)
noncomputable def slices_IndexFunc_api_Object_u77_l3 : ((Int × ((List (Str × Str)) × Int)) × Str) → Option ((Int × Str) ⊕ Str) := fixO (B := fun _ => (Int × Str) ⊕ Str) slices_IndexFunc_api_Object_u77_l3F
theorem slices_IndexFunc_api_Object_u77_l3_eq (q : ((Int × ((List (Str × Str)) × Int)) × Str)) : slices_IndexFunc_api_Object_u77_l3 q = slices_IndexFunc_api_Object_u77_l3F slices_IndexFunc_api_Object_u77_l3 q := fixO_eq (B := fun _ => (Int × Str) ⊕ Str) (fun ((x8, s, x7), c) => (.ite (.ite (.ite (.bind (.const _) fun _ => (.ite (.const _) (.app _))) (.const _)) (.const _)) (.const _))) q
noncomputable def slices_IndexFunc_api_Object_u77 : ((List (Str × Str)) × Str) → Option ((Int × Str)) := fun (s, c) =>
 slices_IndexFunc_api_Object_u77_l3 (((0 : Int), (s, (s.length : Int))), c) >>= fun r =>
 Sum.elim (fun r1 => some r1) (fun r1 => some ((-1 : Int), r1)) r
noncomputable def digest_Fits : (Str × Str) → Option (Int) := fun (digest, data) =>
 digest_Parse digest >>= fun p =>
 if (p.2 != (0 : Int)) then some p.2 else
 digest_Sum [data] >>= fun s =>
 if (s != p.1) then some (10 : Int) else
 some (0 : Int)
noncomputable def closure_Find : ((List (Str × Str)) × Str) → Option ((Str × Int)) := fun (l, d) =>
 slices_IndexFunc_api_Object_u77 (l, d) >>= fun o =>
 if (decide (o.1 < (0 : Int))) then some ([], (9 : Int)) else
 if ((0 : Int) ≤ o.1) then
 if (o.1 < (l.length : Int)) then
 digest_Fits (o.2, (elt (.pair .str .str) l o.1.toNat).2) >>= fun f =>
 if (f != (0 : Int)) then some ([], (10 : Int)) else
 if ((0 : Int) ≤ o.1) then
 if (o.1 < (l.length : Int)) then
 some ((elt (.pair .str .str) l o.1.toNat).2, (0 : Int)) else none else none else none else none
noncomputable def closure_walker_walk_916_l19F (self : ((Int × ((List Str) × (Str × Int))) × ((List (Str × Str)) × ((List Str) × (List Str)))) → Option ((Str × ((List (Str × Str)) × ((List Str) × (List Str)))))) : ((Int × ((List Str) × (Str × Int))) × ((List (Str × Str)) × ((List Str) × (List Str)))) → Option ((Str × ((List (Str × Str)) × ((List Str) × (List Str))))) := fun ((x47, x45, d, x46), c, c1, c2) =>
 if (decide (x47 < x46)) then (if ((0 : Int) ≤ x47) then
 if (x47 < (x45.length : Int)) then
 slices_Contains_string (c2, (elt .str x45 x47.toNat)) >>= fun s =>
 if (!s) then (if (sumOk (c2.length + [(elt .str x45 x47.toNat)].length) 16) then
 self (((IntKind.wrap .i64 (x47 + (1 : Int))), (x45, (d, x46))), (c, (c1, (c2 ++ [(elt .str x45 x47.toNat)])))) else none) else
 self (((IntKind.wrap .i64 (x47 + (1 : Int))), (x45, (d, x46))), (c, (c1, c2))) else none else none) else
 some (d, (c, (c1, c2)))
noncomputable def closure_walker_walk_916_l19 : ((Int × ((List Str) × (Str × Int))) × ((List (Str × Str)) × ((List Str) × (List Str)))) → Option ((Str × ((List (Str × Str)) × ((List Str) × (List Str))))) := fixO (B := fun _ => (Str × ((List (Str × Str)) × ((List Str) × (List Str))))) closure_walker_walk_916_l19F
theorem closure_walker_walk_916_l19_eq (q : ((Int × ((List Str) × (Str × Int))) × ((List (Str × Str)) × ((List Str) × (List Str))))) : closure_walker_walk_916_l19 q = closure_walker_walk_916_l19F closure_walker_walk_916_l19 q := fixO_eq (B := fun _ => (Str × ((List (Str × Str)) × ((List Str) × (List Str))))) (fun ((x47, x45, d, x46), c, c1, c2) => (.ite (.ite (.ite (.bind (.const _) fun _ => (.ite (.ite (.app _) (.const _)) (.app _))) (.const _)) (.const _)) (.const _))) q
abbrev closure_walker_walk_1_nnrGA := (Str × (Int × ((List (Str × Str)) × ((List Str) × (List Str))))) ⊕ ((Str × Int) × ((List (Str × Str)) × ((List Str) × (List Str)))) ⊕ ((List Str) × (Int × ((List (Str × Str)) × ((List Str) × (List Str))))) ⊕ ((Int × ((List Str) × Int)) × (Int × ((List (Str × Str)) × ((List Str) × (List Str)))))
abbrev closure_walker_walk_1_nnrGB : closure_walker_walk_1_nnrGA → Type
  | (.inl _) => (Int × (Int × ((List (Str × Str)) × ((List Str) × (List Str)))))
  | (.inr (.inl _)) => (Int × ((List (Str × Str)) × ((List Str) × (List Str))))
  | (.inr (.inr (.inl _))) => (Int × (Int × ((List (Str × Str)) × ((List Str) × (List Str)))))
  | (.inr (.inr (.inr _))) => (Int × (Int × ((List (Str × Str)) × ((List Str) × (List Str))))) ⊕ (Int × ((List (Str × Str)) × ((List Str) × (List Str))))
noncomputable def closure_walker_walk_1_nnrF (closure_walker_walk_1_nnr : (Str × (Int × ((List (Str × Str)) × ((List Str) × (List Str))))) → Option ((Int × (Int × ((List (Str × Str)) × ((List Str) × (List Str))))))) (closure_walker_walk_916 : ((Str × Int) × ((List (Str × Str)) × ((List Str) × (List Str)))) → Option ((Int × ((List (Str × Str)) × ((List Str) × (List Str)))))) (closure_each_dgm : ((List Str) × (Int × ((List (Str × Str)) × ((List Str) × (List Str))))) → Option ((Int × (Int × ((List (Str × Str)) × ((List Str) × (List Str))))))) (closure_each_dgm_l3 : ((Int × ((List Str) × Int)) × (Int × ((List (Str × Str)) × ((List Str) × (List Str))))) → Option ((Int × (Int × ((List (Str × Str)) × ((List Str) × (List Str))))) ⊕ (Int × ((List (Str × Str)) × ((List Str) × (List Str)))))) : (Str × (Int × ((List (Str × Str)) × ((List Str) × (List Str))))) → Option ((Int × (Int × ((List (Str × Str)) × ((List Str) × (List Str)))))) := fun (k, c, c1, c2, c3) =>
 slices_Contains_string (c2, k) >>= fun s =>
 if s then some ((0 : Int), (c, (c1, (c2, c3)))) else
 closure_walker_walk_916 ((k, (IntKind.wrap .i64 (c + (1 : Int)))), (c1, (c2, c3))) >>= fun w =>
 some (w.1, (c, w.2))
noncomputable def closure_walker_walk_916F (closure_walker_walk_1_nnr : (Str × (Int × ((List (Str × Str)) × ((List Str) × (List Str))))) → Option ((Int × (Int × ((List (Str × Str)) × ((List Str) × (List Str))))))) (closure_walker_walk_916 : ((Str × Int) × ((List (Str × Str)) × ((List Str) × (List Str)))) → Option ((Int × ((List (Str × Str)) × ((List Str) × (List Str)))))) (closure_each_dgm : ((List Str) × (Int × ((List (Str × Str)) × ((List Str) × (List Str))))) → Option ((Int × (Int × ((List (Str × Str)) × ((List Str) × (List Str))))))) (closure_each_dgm_l3 : ((Int × ((List Str) × Int)) × (Int × ((List (Str × Str)) × ((List Str) × (List Str))))) → Option ((Int × (Int × ((List (Str × Str)) × ((List Str) × (List Str))))) ⊕ (Int × ((List (Str × Str)) × ((List Str) × (List Str)))))) : ((Str × Int) × ((List (Str × Str)) × ((List Str) × (List Str)))) → Option ((Int × ((List (Str × Str)) × ((List Str) × (List Str))))) := fun ((d, depth), c, c1, c2) =>
 if (decide (depth > (4 : Int))) then some ((7 : Int), (c, (c1, c2))) else
 closure_Find (c, d) >>= fun f =>
 if (f.2 != (0 : Int)) then some (f.2, (c, (c1, c2))) else
 manifest_Parse f.1 >>= fun p =>
 if (p.2 != (0 : Int)) then some (p.2, (c, (c1, c2))) else
 closure_each_dgm (p.1.2.2.2, (depth, (c, (c1, c2)))) >>= fun d1 =>
 if (d1.1 != (0 : Int)) then some (d1.1, d1.2.2) else
 manifest_Blobs p.1 >>= fun b =>
 closure_walker_walk_916_l19 (((0 : Int), (b, (d, (b.length : Int)))), d1.2.2) >>= fun r =>
 if (sumOk (r.2.2.1.length + [r.1].length) 16) then
 some ((0 : Int), (r.2.1, ((r.2.2.1 ++ [r.1]), r.2.2.2))) else none
noncomputable def closure_each_dgmF (closure_walker_walk_1_nnr : (Str × (Int × ((List (Str × Str)) × ((List Str) × (List Str))))) → Option ((Int × (Int × ((List (Str × Str)) × ((List Str) × (List Str))))))) (closure_walker_walk_916 : ((Str × Int) × ((List (Str × Str)) × ((List Str) × (List Str)))) → Option ((Int × ((List (Str × Str)) × ((List Str) × (List Str)))))) (closure_each_dgm : ((List Str) × (Int × ((List (Str × Str)) × ((List Str) × (List Str))))) → Option ((Int × (Int × ((List (Str × Str)) × ((List Str) × (List Str))))))) (closure_each_dgm_l3 : ((Int × ((List Str) × Int)) × (Int × ((List (Str × Str)) × ((List Str) × (List Str))))) → Option ((Int × (Int × ((List (Str × Str)) × ((List Str) × (List Str))))) ⊕ (Int × ((List (Str × Str)) × ((List Str) × (List Str)))))) : ((List Str) × (Int × ((List (Str × Str)) × ((List Str) × (List Str))))) → Option ((Int × (Int × ((List (Str × Str)) × ((List Str) × (List Str)))))) := fun (l, c, c1, c2, c3) =>
 closure_each_dgm_l3 (((0 : Int), (l, (l.length : Int))), (c, (c1, (c2, c3)))) >>= fun r =>
 Sum.elim (fun r1 => some r1) (fun r1 => some ((0 : Int), r1)) r
noncomputable def closure_each_dgm_l3F (closure_walker_walk_1_nnr : (Str × (Int × ((List (Str × Str)) × ((List Str) × (List Str))))) → Option ((Int × (Int × ((List (Str × Str)) × ((List Str) × (List Str))))))) (closure_walker_walk_916 : ((Str × Int) × ((List (Str × Str)) × ((List Str) × (List Str)))) → Option ((Int × ((List (Str × Str)) × ((List Str) × (List Str)))))) (closure_each_dgm : ((List Str) × (Int × ((List (Str × Str)) × ((List Str) × (List Str))))) → Option ((Int × (Int × ((List (Str × Str)) × ((List Str) × (List Str))))))) (closure_each_dgm_l3 : ((Int × ((List Str) × Int)) × (Int × ((List (Str × Str)) × ((List Str) × (List Str))))) → Option ((Int × (Int × ((List (Str × Str)) × ((List Str) × (List Str))))) ⊕ (Int × ((List (Str × Str)) × ((List Str) × (List Str)))))) : ((Int × ((List Str) × Int)) × (Int × ((List (Str × Str)) × ((List Str) × (List Str))))) → Option ((Int × (Int × ((List (Str × Str)) × ((List Str) × (List Str))))) ⊕ (Int × ((List (Str × Str)) × ((List Str) × (List Str))))) := fun ((x10, x8, x9), c, c1, c2, c3) =>
 if (decide (x10 < x9)) then (if ((0 : Int) ≤ x10) then
 if (x10 < (x8.length : Int)) then
 closure_walker_walk_1_nnr ((elt .str x8 x10.toNat), (c, (c1, (c2, c3)))) >>= fun n =>
 if (n.1 != (0 : Int)) then some (.inl n) else
 closure_each_dgm_l3 (((IntKind.wrap .i64 (x10 + (1 : Int))), (x8, x9)), n.2) else none else none) else
 some (.inr (c, (c1, (c2, c3))))
noncomputable def closure_walker_walk_1_nnrGF (u : ∀ a, Option (closure_walker_walk_1_nnrGB a)) : ∀ a, Option (closure_walker_walk_1_nnrGB a)
  | (.inl q) => closure_walker_walk_1_nnrF (fun q => u (.inl q)) (fun q => u (.inr (.inl q))) (fun q => u (.inr (.inr (.inl q)))) (fun q => u (.inr (.inr (.inr q)))) q
  | (.inr (.inl q)) => closure_walker_walk_916F (fun q => u (.inl q)) (fun q => u (.inr (.inl q))) (fun q => u (.inr (.inr (.inl q)))) (fun q => u (.inr (.inr (.inr q)))) q
  | (.inr (.inr (.inl q))) => closure_each_dgmF (fun q => u (.inl q)) (fun q => u (.inr (.inl q))) (fun q => u (.inr (.inr (.inl q)))) (fun q => u (.inr (.inr (.inr q)))) q
  | (.inr (.inr (.inr q))) => closure_each_dgm_l3F (fun q => u (.inl q)) (fun q => u (.inr (.inl q))) (fun q => u (.inr (.inr (.inl q)))) (fun q => u (.inr (.inr (.inr q)))) q
noncomputable def closure_walker_walk_1_nnr (q : (Str × (Int × ((List (Str × Str)) × ((List Str) × (List Str)))))) : Option ((Int × (Int × ((List (Str × Str)) × ((List Str) × (List Str)))))) := fixO closure_walker_walk_1_nnrGF (.inl q)
noncomputable def closure_walker_walk_916 (q : ((Str × Int) × ((List (Str × Str)) × ((List Str) × (List Str))))) : Option ((Int × ((List (Str × Str)) × ((List Str) × (List Str))))) := fixO closure_walker_walk_1_nnrGF (.inr (.inl q))
noncomputable def closure_each_dgm (q : ((List Str) × (Int × ((List (Str × Str)) × ((List Str) × (List Str)))))) : Option ((Int × (Int × ((List (Str × Str)) × ((List Str) × (List Str)))))) := fixO closure_walker_walk_1_nnrGF (.inr (.inr (.inl q)))
noncomputable def closure_each_dgm_l3 (q : ((Int × ((List Str) × Int)) × (Int × ((List (Str × Str)) × ((List Str) × (List Str)))))) : Option ((Int × (Int × ((List (Str × Str)) × ((List Str) × (List Str))))) ⊕ (Int × ((List (Str × Str)) × ((List Str) × (List Str))))) := fixO closure_walker_walk_1_nnrGF (.inr (.inr (.inr q)))
theorem closure_walker_walk_1_nnrGc : ∀ a, Cont fun u => closure_walker_walk_1_nnrGF u a
  | (.inl (k, c, c1, c2, c3)) => by unfold closure_walker_walk_1_nnrGF closure_walker_walk_1_nnrF; exact (.bind (.const _) fun _ => (.ite (.const _) (.bind (.app _) fun _ => (.const _))))
  | (.inr (.inl ((d, depth), c, c1, c2))) => by unfold closure_walker_walk_1_nnrGF closure_walker_walk_916F; exact (.ite (.const _) (.bind (.const _) fun _ => (.ite (.const _) (.bind (.const _) fun _ => (.ite (.const _) (.bind (.app _) fun _ => (.const _)))))))
  | (.inr (.inr (.inl (l, c, c1, c2, c3)))) => by unfold closure_walker_walk_1_nnrGF closure_each_dgmF; exact (.bind (.app _) fun _ => (.const _))
  | (.inr (.inr (.inr ((x10, x8, x9), c, c1, c2, c3)))) => by unfold closure_walker_walk_1_nnrGF closure_each_dgm_l3F; exact (.ite (.ite (.ite (.bind (.app _) fun _ => (.ite (.const _) (.app _))) (.const _)) (.const _)) (.const _))
theorem closure_walker_walk_1_nnr_eq (q : (Str × (Int × ((List (Str × Str)) × ((List Str) × (List Str)))))) : closure_walker_walk_1_nnr q = closure_walker_walk_1_nnrF closure_walker_walk_1_nnr closure_walker_walk_916 closure_each_dgm closure_each_dgm_l3 q := fixO_eq closure_walker_walk_1_nnrGc (.inl q)
theorem closure_walker_walk_916_eq (q : ((Str × Int) × ((List (Str × Str)) × ((List Str) × (List Str))))) : closure_walker_walk_916 q = closure_walker_walk_916F closure_walker_walk_1_nnr closure_walker_walk_916 closure_each_dgm closure_each_dgm_l3 q := fixO_eq closure_walker_walk_1_nnrGc (.inr (.inl q))
theorem closure_each_dgm_eq (q : ((List Str) × (Int × ((List (Str × Str)) × ((List Str) × (List Str)))))) : closure_each_dgm q = closure_each_dgmF closure_walker_walk_1_nnr closure_walker_walk_916 closure_each_dgm closure_each_dgm_l3 q := fixO_eq closure_walker_walk_1_nnrGc (.inr (.inr (.inl q)))
theorem closure_each_dgm_l3_eq (q : ((Int × ((List Str) × Int)) × (Int × ((List (Str × Str)) × ((List Str) × (List Str)))))) : closure_each_dgm_l3 q = closure_each_dgm_l3F closure_walker_walk_1_nnr closure_walker_walk_916 closure_each_dgm closure_each_dgm_l3 q := fixO_eq closure_walker_walk_1_nnrGc (.inr (.inr (.inr q)))
noncomputable def closure_each_5do_l3F (self : ((Int × ((List Str) × Int)) × (Int × ((List (Str × Str)) × ((List Str) × (List Str))))) → Option ((Int × (Int × ((List (Str × Str)) × ((List Str) × (List Str))))) ⊕ (Int × ((List (Str × Str)) × ((List Str) × (List Str)))))) : ((Int × ((List Str) × Int)) × (Int × ((List (Str × Str)) × ((List Str) × (List Str))))) → Option ((Int × (Int × ((List (Str × Str)) × ((List Str) × (List Str))))) ⊕ (Int × ((List (Str × Str)) × ((List Str) × (List Str))))) := fun ((x10, x8, x9), c, c1, c2, c3) =>
 if (decide (x10 < x9)) then (if ((0 : Int) ≤ x10) then
 if (x10 < (x8.length : Int)) then
 closure_walker_walk_1_nnr ((elt .str x8 x10.toNat), (c, (c1, (c2, c3)))) >>= fun n =>
 if (n.1 != (0 : Int)) then some (.inl n) else
 self (((IntKind.wrap .i64 (x10 + (1 : Int))), (x8, x9)), n.2) else none else none) else
 some (.inr (c, (c1, (c2, c3))))
noncomputable def closure_each_5do_l3 : ((Int × ((List Str) × Int)) × (Int × ((List (Str × Str)) × ((List Str) × (List Str))))) → Option ((Int × (Int × ((List (Str × Str)) × ((List Str) × (List Str))))) ⊕ (Int × ((List (Str × Str)) × ((List Str) × (List Str))))) := fixO (B := fun _ => (Int × (Int × ((List (Str × Str)) × ((List Str) × (List Str))))) ⊕ (Int × ((List (Str × Str)) × ((List Str) × (List Str))))) closure_each_5do_l3F
theorem closure_each_5do_l3_eq (q : ((Int × ((List Str) × Int)) × (Int × ((List (Str × Str)) × ((List Str) × (List Str)))))) : closure_each_5do_l3 q = closure_each_5do_l3F closure_each_5do_l3 q := fixO_eq (B := fun _ => (Int × (Int × ((List (Str × Str)) × ((List Str) × (List Str))))) ⊕ (Int × ((List (Str × Str)) × ((List Str) × (List Str))))) (fun ((x10, x8, x9), c, c1, c2, c3) => (.ite (.ite (.ite (.bind (.const _) fun _ => (.ite (.const _) (.app _))) (.const _)) (.const _)) (.const _))) q
noncomputable def closure_each_5do : ((List Str) × (Int × (List (Str × Str)))) → Option ((Int × (Int × ((List (Str × Str)) × ((List Str) × (List Str)))))) := fun (l, c, c1) =>
 closure_each_5do_l3 (((0 : Int), (l, (l.length : Int))), (c, (c1, ([], [])))) >>= fun r =>
 Sum.elim (fun r1 => some r1) (fun r1 => some ((0 : Int), r1)) r
noncomputable def closure_walker_walk_zkr_l19F (self : ((Int × ((List Str) × (Str × Int))) × ((List (Str × Str)) × ((List Str) × (List Str)))) → Option ((Str × ((List (Str × Str)) × ((List Str) × (List Str)))))) : ((Int × ((List Str) × (Str × Int))) × ((List (Str × Str)) × ((List Str) × (List Str)))) → Option ((Str × ((List (Str × Str)) × ((List Str) × (List Str))))) := fun ((x47, x45, d, x46), c, c1, c2) =>
 if (decide (x47 < x46)) then (if ((0 : Int) ≤ x47) then
 if (x47 < (x45.length : Int)) then
 slices_Contains_string (c2, (elt .str x45 x47.toNat)) >>= fun s =>
 if (!s) then (if (sumOk (c2.length + [(elt .str x45 x47.toNat)].length) 16) then
 self (((IntKind.wrap .i64 (x47 + (1 : Int))), (x45, (d, x46))), (c, (c1, (c2 ++ [(elt .str x45 x47.toNat)])))) else none) else
 self (((IntKind.wrap .i64 (x47 + (1 : Int))), (x45, (d, x46))), (c, (c1, c2))) else none else none) else
 some (d, (c, (c1, c2)))
noncomputable def closure_walker_walk_zkr_l19 : ((Int × ((List Str) × (Str × Int))) × ((List (Str × Str)) × ((List Str) × (List Str)))) → Option ((Str × ((List (Str × Str)) × ((List Str) × (List Str))))) := fixO (B := fun _ => (Str × ((List (Str × Str)) × ((List Str) × (List Str))))) closure_walker_walk_zkr_l19F
theorem closure_walker_walk_zkr_l19_eq (q : ((Int × ((List Str) × (Str × Int))) × ((List (Str × Str)) × ((List Str) × (List Str))))) : closure_walker_walk_zkr_l19 q = closure_walker_walk_zkr_l19F closure_walker_walk_zkr_l19 q := fixO_eq (B := fun _ => (Str × ((List (Str × Str)) × ((List Str) × (List Str))))) (fun ((x47, x45, d, x46), c, c1, c2) => (.ite (.ite (.ite (.bind (.const _) fun _ => (.ite (.ite (.app _) (.const _)) (.app _))) (.const _)) (.const _)) (.const _))) q
noncomputable def closure_walker_walk_zkr : ((Str × Int) × (List (Str × Str))) → Option ((Int × ((List (Str × Str)) × ((List Str) × (List Str))))) := fun ((d, depth), c) =>
 if (decide (depth > (4 : Int))) then some ((7 : Int), (c, ([], []))) else
 closure_Find (c, d) >>= fun f =>
 if (f.2 != (0 : Int)) then some (f.2, (c, ([], []))) else
 manifest_Parse f.1 >>= fun p =>
 if (p.2 != (0 : Int)) then some (p.2, (c, ([], []))) else
 closure_each_5do (p.1.2.2.2, (depth, c)) >>= fun e =>
 if (e.1 != (0 : Int)) then some (e.1, e.2.2) else
 manifest_Blobs p.1 >>= fun b =>
 closure_walker_walk_zkr_l19 (((0 : Int), (b, (d, (b.length : Int)))), e.2.2) >>= fun r =>
 if (sumOk (r.2.2.1.length + [r.1].length) 16) then
 some ((0 : Int), (r.2.1, ((r.2.2.1 ++ [r.1]), r.2.2.2))) else none
noncomputable def closure_Of : ((List (Str × Str)) × Str) → Option ((((List Str) × (List Str)) × Int)) := fun (l, d) =>
 closure_walker_walk_zkr ((d, (1 : Int)), l) >>= fun z =>
 if (z.1 != (0 : Int)) then some (([], []), z.1) else
 some (z.2.2, (0 : Int))
noncomputable def closure_Whole_1_icz : (Str × (List (Str × Str))) → Option ((Int × (List (Str × Str)))) := fun (b, c) =>
 closure_Find (c, b) >>= fun f =>
 some (f.2, c)
noncomputable def closure_each_rad_l3F (self : ((Int × ((List Str) × Int)) × (List (Str × Str))) → Option ((Int × (List (Str × Str))) ⊕ (List (Str × Str)))) : ((Int × ((List Str) × Int)) × (List (Str × Str))) → Option ((Int × (List (Str × Str))) ⊕ (List (Str × Str))) := fun ((x10, x8, x9), c) =>
 if (decide (x10 < x9)) then (if ((0 : Int) ≤ x10) then
 if (x10 < (x8.length : Int)) then
 closure_Whole_1_icz ((elt .str x8 x10.toNat), c) >>= fun i =>
 if (i.1 != (0 : Int)) then some (.inl i) else
 self (((IntKind.wrap .i64 (x10 + (1 : Int))), (x8, x9)), i.2) else none else none) else
 some (.inr c)
noncomputable def closure_each_rad_l3 : ((Int × ((List Str) × Int)) × (List (Str × Str))) → Option ((Int × (List (Str × Str))) ⊕ (List (Str × Str))) := fixO (B := fun _ => (Int × (List (Str × Str))) ⊕ (List (Str × Str))) closure_each_rad_l3F
theorem closure_each_rad_l3_eq (q : ((Int × ((List Str) × Int)) × (List (Str × Str)))) : closure_each_rad_l3 q = closure_each_rad_l3F closure_each_rad_l3 q := fixO_eq (B := fun _ => (Int × (List (Str × Str))) ⊕ (List (Str × Str))) (fun ((x10, x8, x9), c) => (.ite (.ite (.ite (.bind (.const _) fun _ => (.ite (.const _) (.app _))) (.const _)) (.const _)) (.const _))) q
noncomputable def closure_each_rad : ((List Str) × (List (Str × Str))) → Option ((Int × (List (Str × Str)))) := fun (l, c) =>
 closure_each_rad_l3 (((0 : Int), (l, (l.length : Int))), c) >>= fun r =>
 Sum.elim (fun r1 => some r1) (fun r1 => some ((0 : Int), r1)) r
noncomputable def closure_Whole : ((List (Str × Str)) × Str) → Option (Int) := fun (l, d) =>
 closure_Of (l, d) >>= fun o =>
 if (o.2 != (0 : Int)) then some o.2 else
 closure_each_rad (o.1.2, l) >>= fun r =>
 some r.1
noncomputable def law06_alive : Unit → Option (Bool) := fun _ =>
 digest_Of ([99] : Str) >>= fun o =>
 manifest_Print (false, (o, ([], []))) >>= fun p =>
 digest_Of ([99] : Str) >>= fun o1 =>
 digest_Of p.1 >>= fun o2 =>
 if (p.2 == (0 : Int)) then (if (decide ((p.1.length : Int) > (70 : Int))) then (digest_Of p.1 >>= fun o3 =>
 closure_Whole ([(o1, ([99] : Str)), (o2, p.1)], o3) >>= fun w =>
 if (w == (0 : Int)) then (digest_Of p.1 >>= fun o4 =>
 closure_Whole ((List.drop 1 (List.take ([(o1, ([99] : Str)), (o2, p.1)].length : Int).toNat [(o1, ([99] : Str)), (o2, p.1)])), o4) >>= fun w1 =>
 some (w1 == (9 : Int))) else
 some false) else
 some false) else
 some false
noncomputable def law06_ClosureLacks_l11F (self : ((Int × (Str × ((List (Str × Str)) × (Int × (Str × Int))))) × ((List (Str × Str)) × ((List Str) × (List Str)))) → Option (((Str × (Int × Str)) × ((List (Str × Str)) × ((List Str) × (List Str)))))) : ((Int × (Str × ((List (Str × Str)) × (Int × (Str × Int))))) × ((List (Str × Str)) × ((List Str) × (List Str)))) → Option (((Str × (Int × Str)) × ((List (Str × Str)) × ((List Str) × (List Str))))) := fun ((x52, gone, x50, e, d, x51), c, c1) =>
 if (decide (x52 < x51)) then (if ((0 : Int) ≤ x52) then
 if (x52 < (x50.length : Int)) then
 if ((elt (.pair .str .str) x50 x52.toNat).1 != gone) then (if (sumOk (c.length + [(elt (.pair .str .str) x50 x52.toNat)].length) 32) then
 self (((IntKind.wrap .i64 (x52 + (1 : Int))), (gone, (x50, (e, (d, x51))))), ((c ++ [(elt (.pair .str .str) x50 x52.toNat)]), c1)) else none) else
 self (((IntKind.wrap .i64 (x52 + (1 : Int))), (gone, (x50, (e, (d, x51))))), (c, c1)) else none else none) else
 some ((gone, (e, d)), (c, c1))
noncomputable def law06_ClosureLacks_l11 : ((Int × (Str × ((List (Str × Str)) × (Int × (Str × Int))))) × ((List (Str × Str)) × ((List Str) × (List Str)))) → Option (((Str × (Int × Str)) × ((List (Str × Str)) × ((List Str) × (List Str))))) := fixO (B := fun _ => ((Str × (Int × Str)) × ((List (Str × Str)) × ((List Str) × (List Str))))) law06_ClosureLacks_l11F
theorem law06_ClosureLacks_l11_eq (q : ((Int × (Str × ((List (Str × Str)) × (Int × (Str × Int))))) × ((List (Str × Str)) × ((List Str) × (List Str))))) : law06_ClosureLacks_l11 q = law06_ClosureLacks_l11F law06_ClosureLacks_l11 q := fixO_eq (B := fun _ => ((Str × (Int × Str)) × ((List (Str × Str)) × ((List Str) × (List Str))))) (fun ((x52, gone, x50, e, d, x51), c, c1) => (.ite (.ite (.ite (.ite (.ite (.app _) (.const _)) (.app _)) (.const _)) (.const _)) (.const _))) q
noncomputable def law06_ClosureLacks_l20F (self : ((Int × (Str × (Bool × (Int × (Str × Int))))) × ((List Str) × (List (Str × Str)))) → Option (((Bool × (Int × Str)) × (List (Str × Str))))) : ((Int × (Str × (Bool × (Int × (Str × Int))))) × ((List Str) × (List (Str × Str)))) → Option (((Bool × (Int × Str)) × (List (Str × Str)))) := fun ((x73, gone, needs, e, d, x72), c, c1) =>
 if (decide (x73 < x72)) then (if ((0 : Int) ≤ x73) then
 if (x73 < (c.length : Int)) then
 if (x73.toNat < c.length) then
 if needs then (self (((IntKind.wrap .i64 (x73 + (1 : Int))), (gone, (true, (e, (d, x72))))), (c, c1))) else
 self (((IntKind.wrap .i64 (x73 + (1 : Int))), (gone, (((elt .str c x73.toNat) == gone), (e, (d, x72))))), (c, c1)) else none else none else none) else
 some ((needs, (e, d)), c1)
noncomputable def law06_ClosureLacks_l20 : ((Int × (Str × (Bool × (Int × (Str × Int))))) × ((List Str) × (List (Str × Str)))) → Option (((Bool × (Int × Str)) × (List (Str × Str)))) := fixO (B := fun _ => ((Bool × (Int × Str)) × (List (Str × Str)))) law06_ClosureLacks_l20F
theorem law06_ClosureLacks_l20_eq (q : ((Int × (Str × (Bool × (Int × (Str × Int))))) × ((List Str) × (List (Str × Str))))) : law06_ClosureLacks_l20 q = law06_ClosureLacks_l20F law06_ClosureLacks_l20 q := fixO_eq (B := fun _ => ((Bool × (Int × Str)) × (List (Str × Str)))) (fun ((x73, gone, needs, e, d, x72), c, c1) => (.ite (.ite (.ite (.ite (.ite (.app _) (.app _)) (.const _)) (.const _)) (.const _)) (.const _))) q
noncomputable def law06_ClosureLacks : ((List (Str × Str)) × (Str × Int)) → Option (Bool) := fun (l, d, at1) =>
 law06_few l >>= fun f =>
 closure_Of (f, d) >>= fun o =>
 closure_Whole (f, d) >>= fun w =>
 if (w != (0 : Int)) then (law06_alive () >>= fun a =>
 some a) else
 if ((f.length : Int) == (0 : Int)) then (law06_alive () >>= fun a =>
 some a) else
 if ((f.length : Int) ≠ (0 : Int)) then
 if ((f.length : Int) ≠ (0 : Int)) then
 if ((0 : Int) ≤ (Int.tmod (IntKind.wrap .i64 ((Int.tmod at1 (f.length : Int)) + (f.length : Int))) (f.length : Int))) then
 if ((Int.tmod (IntKind.wrap .i64 ((Int.tmod at1 (f.length : Int)) + (f.length : Int))) (f.length : Int)) < (f.length : Int)) then
 law06_ClosureLacks_l11 (((0 : Int), ((elt (.pair .str .str) f (Int.tmod (IntKind.wrap .i64 ((Int.tmod at1 (f.length : Int)) + (f.length : Int))) (f.length : Int)).toNat).1, (f, (o.2, (d, (f.length : Int)))))), ([], o.1)) >>= fun r =>
 if (sumOk (0 + r.2.2.1.length) 16) then
 if (sumOk (r.2.2.1.length + r.2.2.2.length) 16) then
 law06_ClosureLacks_l20 (((0 : Int), (r.1.1, (false, (r.1.2.1, (r.1.2.2, ((r.2.2.1 ++ r.2.2.2).length : Int)))))), ((r.2.2.1 ++ r.2.2.2), r.2.1)) >>= fun r1 =>
 closure_Whole (r1.2, r1.1.2.2) >>= fun w1 =>
 law06_alive () >>= fun a =>
 if a then (if (r1.1.2.1 == (0 : Int)) then (if (!r1.1.1) then (if (w1 == (0 : Int)) then some true else
 if r1.1.1 then some (w1 == (9 : Int)) else
 some false) else
 if r1.1.1 then some (w1 == (9 : Int)) else
 some false) else
 some false) else
 some false else none else none else none else none else none else none
end Go.Plain
