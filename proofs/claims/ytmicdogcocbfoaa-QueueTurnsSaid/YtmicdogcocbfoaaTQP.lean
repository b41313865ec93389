import Derived.Test.YtmicdogcocbfoaaBMLib
namespace Go.Plain
open Go.AM
set_option linter.unusedVariables false
noncomputable abbrev slices_Clone_api_Job : (List (Int × (Str × (Str × (Int × (Int × (Int × (Int × Int)))))))) → Option ((List (Int × (Str × (Str × (Int × (Int × (Int × (Int × Int))))))))) := lib_Clone
noncomputable abbrev slices_Delete_api_Job : ((Int × Int) × (List (Int × (Str × (Str × (Int × (Int × (Int × (Int × Int))))))))) → Option ((List (Int × (Str × (Str × (Int × (Int × (Int × (Int × Int))))))))) := lib_Delete
noncomputable def queue_within_1 : Int → Option (Bool) := fun n =>
 if (decide (n < (0 : Int))) then some true else
 some (decide (n > (1099511627776 : Int)))
noncomputable def slices_IndexFunc_int_23l_l3F (self : (Int × ((List Int) × Int)) → Option (Int ⊕ Unit)) : (Int × ((List Int) × Int)) → Option (Int ⊕ Unit) := fun (x8, s, x7) =>
 if (decide (x8 < x7)) then (if ((0 : Int) ≤ x8) then
 if (x8 < (s.length : Int)) then
 queue_within_1 (elt (.int .i64) s x8.toNat) >>= fun w =>
 if w then some (.inl x8) else
 self ((IntKind.wrap .i64 (x8 + (1 : Int))), (s, x7)) else none else none) else
 some (.inr ())
noncomputable def slices_IndexFunc_int_23l_l3 : (Int × ((List Int) × Int)) → Option (Int ⊕ Unit) := fixO (B := fun _ => Int ⊕ Unit) slices_IndexFunc_int_23l_l3F
theorem slices_IndexFunc_int_23l_l3_eq (q : (Int × ((List Int) × Int))) : slices_IndexFunc_int_23l_l3 q = slices_IndexFunc_int_23l_l3F slices_IndexFunc_int_23l_l3 q := fixO_eq (B := fun _ => Int ⊕ Unit) (fun (x8, s, x7) => (.ite (.ite (.ite (.bind (.const _) fun _ => (.ite (.const _) (.app _))) (.const _)) (.const _)) (.const _))) q
noncomputable def slices_IndexFunc_int_23l : (List Int) → Option (Int) := fun s =>
 slices_IndexFunc_int_23l_l3 ((0 : Int), (s, (s.length : Int))) >>= fun r =>
 Sum.elim (fun r1 => some r1) (fun r1 => some (-1 : Int)) r
noncomputable def slices_ContainsFunc_int_23l : (List Int) → Option (Bool) := fun s =>
 slices_IndexFunc_int_23l s >>= fun i =>
 some (decide (i ≥ (0 : Int)))
noncomputable def queue_within : (List Int) → Option (Bool) := fun n =>
 slices_ContainsFunc_int_23l n >>= fun i =>
 some (!i)
noncomputable def queue_may : (Int × (Str × (Str × (Int × (Int × (Int × (Int × Int))))))) → Option (Bool) := fun j =>
 if (decide (j.1 ≥ (1 : Int))) then (queue_within [j.1, j.2.2.2.2.2.1, j.2.2.2.2.2.2.1, j.2.2.2.2.2.2.2] >>= fun w =>
 if w then (if (decide ((j.2.1.length : Int) ≤ (200 : Int))) then (if (decide ((j.2.2.1.length : Int) ≤ (200 : Int))) then (if (decide (j.2.2.2.1 ≥ (1 : Int))) then (if (decide (j.2.2.2.1 ≤ (5 : Int))) then (if (decide (j.2.2.2.2.1 ≥ (0 : Int))) then some (decide (j.2.2.2.2.1 ≤ (10 : Int))) else
 some false) else
 some false) else
 some false) else
 some false) else
 some false) else
 some false) else
 some false
noncomputable def queue_open : (Int × (Str × (Str × (Int × (Int × (Int × (Int × Int))))))) → Option (Bool) := fun j =>
 if (j.2.2.2.1 == (1 : Int)) then some true else
 some (j.2.2.2.1 == (2 : Int))
noncomputable def queue_holds_1_94m : ((Int × (Str × (Str × (Int × (Int × (Int × (Int × Int))))))) × (Str × Int)) → Option ((Bool × (Str × Int))) := fun (j, c, c1) =>
 queue_open j >>= fun o =>
 if o then (if (j.2.1 == c) then some ((j.1 != c1), (c, c1)) else
 some (false, (c, c1))) else
 some (false, (c, c1))
noncomputable def slices_IndexFunc_api_Job_8sr_l3F (self : ((Int × ((List (Int × (Str × (Str × (Int × (Int × (Int × (Int × Int)))))))) × Int)) × (Str × Int)) → Option ((Int × (Str × Int)) ⊕ (Str × Int))) : ((Int × ((List (Int × (Str × (Str × (Int × (Int × (Int × (Int × Int)))))))) × Int)) × (Str × Int)) → Option ((Int × (Str × Int)) ⊕ (Str × Int)) := fun ((x8, s, x7), c, c1) =>
 if (decide (x8 < x7)) then (if ((0 : Int) ≤ x8) then
 if (x8 < (s.length : Int)) then
 queue_holds_1_94m ((elt (.pair (.int .i64) (.pair .str (.pair .str (.pair (.int .i64) (.pair (.int .i64) (.pair (.int .i64) (.pair (.int .i64) (.int .i64)))))))) s x8.toNat), (c, c1)) >>= fun h =>
 if h.1 then some (.inl (x8, h.2)) else
 self (((IntKind.wrap .i64 (x8 + (1 : Int))), (s, x7)), h.2) else none else none) else
 some (.inr (c, c1))
noncomputable def slices_IndexFunc_api_Job_8sr_l3 : ((Int × ((List (Int × (Str × (Str × (Int × (Int × (Int × (Int × Int)))))))) × Int)) × (Str × Int)) → Option ((Int × (Str × Int)) ⊕ (Str × Int)) := fixO (B := fun _ => (Int × (Str × Int)) ⊕ (Str × Int)) slices_IndexFunc_api_Job_8sr_l3F
theorem slices_IndexFunc_api_Job_8sr_l3_eq (q : ((Int × ((List (Int × (Str × (Str × (Int × (Int × (Int × (Int × Int)))))))) × Int)) × (Str × Int))) : slices_IndexFunc_api_Job_8sr_l3 q = slices_IndexFunc_api_Job_8sr_l3F slices_IndexFunc_api_Job_8sr_l3 q := fixO_eq (B := fun _ => (Int × (Str × Int)) ⊕ (Str × Int)) (fun ((x8, s, x7), c, c1) => (.ite (.ite (.ite (.bind (.const _) fun _ => (.ite (.const _) (.app _))) (.const _)) (.const _)) (.const _))) q
noncomputable def slices_IndexFunc_api_Job_8sr : ((List (Int × (Str × (Str × (Int × (Int × (Int × (Int × Int)))))))) × (Str × Int)) → Option ((Int × (Str × Int))) := fun (s, c, c1) =>
 slices_IndexFunc_api_Job_8sr_l3 (((0 : Int), (s, (s.length : Int))), (c, c1)) >>= fun r =>
 Sum.elim (fun r1 => some r1) (fun r1 => some ((-1 : Int), r1)) r
noncomputable def slices_ContainsFunc_api_Job_8sr : ((List (Int × (Str × (Str × (Int × (Int × (Int × (Int × Int)))))))) × (Str × Int)) → Option ((Bool × (Str × Int))) := fun (s, c, c1) =>
 slices_IndexFunc_api_Job_8sr (s, (c, c1)) >>= fun j =>
 some ((decide (j.1 ≥ (0 : Int))), j.2)
noncomputable def queue_holds : (((List (Int × (Str × (Str × (Int × (Int × (Int × (Int × Int)))))))) × (Int × Int)) × (Str × Int)) → Option (Bool) := fun (q, key, id) =>
 slices_ContainsFunc_api_Job_8sr (q.1, (key, id)) >>= fun j =>
 some j.1
noncomputable def queue_Right_l4F (self : ((Int × (Int × ((List (Int × (Str × (Str × (Int × (Int × (Int × (Int × Int)))))))) × Int))) × ((List (Int × (Str × (Str × (Int × (Int × (Int × (Int × Int)))))))) × (Int × Int))) → Option (Bool ⊕ ((List (Int × (Str × (Str × (Int × (Int × (Int × (Int × Int)))))))) × (Int × Int)))) : ((Int × (Int × ((List (Int × (Str × (Str × (Int × (Int × (Int × (Int × Int)))))))) × Int))) × ((List (Int × (Str × (Str × (Int × (Int × (Int × (Int × Int)))))))) × (Int × Int))) → Option (Bool ⊕ ((List (Int × (Str × (Str × (Int × (Int × (Int × (Int × Int)))))))) × (Int × Int))) := fun ((x9, last, x7, x8), c) =>
 if (decide (x9 < x8)) then (if ((0 : Int) ≤ x9) then
 if (x9 < (x7.length : Int)) then
 queue_may (elt (.pair (.int .i64) (.pair .str (.pair .str (.pair (.int .i64) (.pair (.int .i64) (.pair (.int .i64) (.pair (.int .i64) (.int .i64)))))))) x7 x9.toNat) >>= fun m =>
 if (!m) then some (.inl false) else
 if (decide ((elt (.pair (.int .i64) (.pair .str (.pair .str (.pair (.int .i64) (.pair (.int .i64) (.pair (.int .i64) (.pair (.int .i64) (.int .i64)))))))) x7 x9.toNat).1 ≤ last)) then some (.inl false) else
 if (decide ((elt (.pair (.int .i64) (.pair .str (.pair .str (.pair (.int .i64) (.pair (.int .i64) (.pair (.int .i64) (.pair (.int .i64) (.int .i64)))))))) x7 x9.toNat).1 > c.2.1)) then some (.inl false) else
 if (decide ((elt (.pair (.int .i64) (.pair .str (.pair .str (.pair (.int .i64) (.pair (.int .i64) (.pair (.int .i64) (.pair (.int .i64) (.int .i64)))))))) x7 x9.toNat).2.2.2.2.2.1 > c.2.2)) then some (.inl false) else
 queue_open (elt (.pair (.int .i64) (.pair .str (.pair .str (.pair (.int .i64) (.pair (.int .i64) (.pair (.int .i64) (.pair (.int .i64) (.int .i64)))))))) x7 x9.toNat) >>= fun o =>
 if o then (queue_holds (c, ((elt (.pair (.int .i64) (.pair .str (.pair .str (.pair (.int .i64) (.pair (.int .i64) (.pair (.int .i64) (.pair (.int .i64) (.int .i64)))))))) x7 x9.toNat).2.1, (elt (.pair (.int .i64) (.pair .str (.pair .str (.pair (.int .i64) (.pair (.int .i64) (.pair (.int .i64) (.pair (.int .i64) (.int .i64)))))))) x7 x9.toNat).1)) >>= fun h =>
 if h then some (.inl false) else
 self (((IntKind.wrap .i64 (x9 + (1 : Int))), ((elt (.pair (.int .i64) (.pair .str (.pair .str (.pair (.int .i64) (.pair (.int .i64) (.pair (.int .i64) (.pair (.int .i64) (.int .i64)))))))) x7 x9.toNat).1, (x7, x8))), c)) else
 self (((IntKind.wrap .i64 (x9 + (1 : Int))), ((elt (.pair (.int .i64) (.pair .str (.pair .str (.pair (.int .i64) (.pair (.int .i64) (.pair (.int .i64) (.pair (.int .i64) (.int .i64)))))))) x7 x9.toNat).1, (x7, x8))), c) else none else none) else
 some (.inr c)
noncomputable def queue_Right_l4 : ((Int × (Int × ((List (Int × (Str × (Str × (Int × (Int × (Int × (Int × Int)))))))) × Int))) × ((List (Int × (Str × (Str × (Int × (Int × (Int × (Int × Int)))))))) × (Int × Int))) → Option (Bool ⊕ ((List (Int × (Str × (Str × (Int × (Int × (Int × (Int × Int)))))))) × (Int × Int))) := fixO (B := fun _ => Bool ⊕ ((List (Int × (Str × (Str × (Int × (Int × (Int × (Int × Int)))))))) × (Int × Int))) queue_Right_l4F
theorem queue_Right_l4_eq (q : ((Int × (Int × ((List (Int × (Str × (Str × (Int × (Int × (Int × (Int × Int)))))))) × Int))) × ((List (Int × (Str × (Str × (Int × (Int × (Int × (Int × Int)))))))) × (Int × Int)))) : queue_Right_l4 q = queue_Right_l4F queue_Right_l4 q := fixO_eq (B := fun _ => Bool ⊕ ((List (Int × (Str × (Str × (Int × (Int × (Int × (Int × Int)))))))) × (Int × Int))) (fun ((x9, last, x7, x8), c) => (.ite (.ite (.ite (.bind (.const _) fun _ => (.ite (.const _) (.ite (.const _) (.ite (.const _) (.ite (.const _) (.bind (.const _) fun _ => (.ite (.bind (.const _) fun _ => (.ite (.const _) (.app _))) (.app _)))))))) (.const _)) (.const _)) (.const _))) q
noncomputable def queue_Right : ((List (Int × (Str × (Str × (Int × (Int × (Int × (Int × Int)))))))) × (Int × Int)) → Option (Bool) := fun q =>
 queue_Right_l4 (((0 : Int), ((0 : Int), (q.1, (q.1.length : Int)))), q) >>= fun r =>
 Sum.elim (fun r1 => some r1) (fun r1 => if (decide ((r1.1.length : Int) ≤ (64 : Int))) then (queue_within [r1.2.1, r1.2.2] >>= fun w =>
 some w) else
 some false) r
noncomputable def queue_Add_1 : (Int × (Str × (Str × (Int × (Int × (Int × (Int × Int))))))) → Option (Bool) := fun j =>
 if (j.2.2.2.1 == (3 : Int)) then some true else
 some (j.2.2.2.1 == (4 : Int))
noncomputable def slices_IndexFunc_api_Job_mbg_l3F (self : ((Int × Int) × (List (Int × (Str × (Str × (Int × (Int × (Int × (Int × Int))))))))) → Option ((Int × (List (Int × (Str × (Str × (Int × (Int × (Int × (Int × Int))))))))) ⊕ (List (Int × (Str × (Str × (Int × (Int × (Int × (Int × Int)))))))))) : ((Int × Int) × (List (Int × (Str × (Str × (Int × (Int × (Int × (Int × Int))))))))) → Option ((Int × (List (Int × (Str × (Str × (Int × (Int × (Int × (Int × Int))))))))) ⊕ (List (Int × (Str × (Str × (Int × (Int × (Int × (Int × Int))))))))) := fun ((x8, x7), c) =>
 if (decide (x8 < x7)) then (if ((0 : Int) ≤ x8) then
 if (x8 < (c.length : Int)) then
 if (x8.toNat < c.length) then
 queue_Add_1 (elt (.pair (.int .i64) (.pair .str (.pair .str (.pair (.int .i64) (.pair (.int .i64) (.pair (.int .i64) (.pair (.int .i64) (.int .i64)))))))) c x8.toNat) >>= fun a =>
 if a then some (.inl (x8, c)) else
 self (((IntKind.wrap .i64 (x8 + (1 : Int))), x7), c) else none else none else none) else
 some (.inr c)
noncomputable def slices_IndexFunc_api_Job_mbg_l3 : ((Int × Int) × (List (Int × (Str × (Str × (Int × (Int × (Int × (Int × Int))))))))) → Option ((Int × (List (Int × (Str × (Str × (Int × (Int × (Int × (Int × Int))))))))) ⊕ (List (Int × (Str × (Str × (Int × (Int × (Int × (Int × Int))))))))) := fixO (B := fun _ => (Int × (List (Int × (Str × (Str × (Int × (Int × (Int × (Int × Int))))))))) ⊕ (List (Int × (Str × (Str × (Int × (Int × (Int × (Int × Int))))))))) slices_IndexFunc_api_Job_mbg_l3F
noncomputable def slices_IndexFunc_api_Job_mbg : (List (Int × (Str × (Str × (Int × (Int × (Int × (Int × Int)))))))) → Option ((Int × (List (Int × (Str × (Str × (Int × (Int × (Int × (Int × Int)))))))))) := fun c =>
 slices_IndexFunc_api_Job_mbg_l3 (((0 : Int), (c.length : Int)), c) >>= fun r =>
 Sum.elim (fun r1 => some r1) (fun r1 => some ((-1 : Int), r1)) r
noncomputable def queue_Add : (((List (Int × (Str × (Str × (Int × (Int × (Int × (Int × Int)))))))) × (Int × Int)) × (Str × Str)) → Option ((((List (Int × (Str × (Str × (Int × (Int × (Int × (Int × Int)))))))) × (Int × Int)) × (Int × Int))) := fun (q, key, body) =>
 queue_Right q >>= fun r =>
 if (!r) then some (([], ((0 : Int), (0 : Int))), ((0 : Int), (1 : Int))) else
 if (decide ((key.length : Int) > (200 : Int))) then some (([], ((0 : Int), (0 : Int))), ((0 : Int), (2 : Int))) else
 if (decide ((body.length : Int) > (200 : Int))) then some (([], ((0 : Int), (0 : Int))), ((0 : Int), (2 : Int))) else
 queue_holds (q, (key, (0 : Int))) >>= fun h =>
 if h then some (([], ((0 : Int), (0 : Int))), ((0 : Int), (17 : Int))) else
 slices_Clone_api_Job q.1 >>= fun j =>
 if ((j.length : Int) == (64 : Int)) then (slices_IndexFunc_api_Job_mbg j >>= fun m =>
 if (decide (m.1 ≥ (0 : Int))) then (slices_Delete_api_Job ((m.1, (IntKind.wrap .i64 (m.1 + (1 : Int)))), m.2) >>= fun j1 =>
 if ((j1.length : Int) == (64 : Int)) then some (([], ((0 : Int), (0 : Int))), ((0 : Int), (13 : Int))) else
 if (q.2.1 == (1099511627776 : Int)) then some (([], ((0 : Int), (0 : Int))), ((0 : Int), (13 : Int))) else
 if (sumOk (j1.length + [((IntKind.wrap .i64 (q.2.1 + (1 : Int))), (key, (body, ((1 : Int), ((0 : Int), ((0 : Int), ((0 : Int), (0 : Int))))))))].length) 80) then
 some (((j1 ++ [((IntKind.wrap .i64 (q.2.1 + (1 : Int))), (key, (body, ((1 : Int), ((0 : Int), ((0 : Int), ((0 : Int), (0 : Int))))))))]), ((IntKind.wrap .i64 (q.2.1 + (1 : Int))), q.2.2)), ((IntKind.wrap .i64 (q.2.1 + (1 : Int))), (0 : Int))) else none) else
 if ((m.2.length : Int) == (64 : Int)) then some (([], ((0 : Int), (0 : Int))), ((0 : Int), (13 : Int))) else
 if (q.2.1 == (1099511627776 : Int)) then some (([], ((0 : Int), (0 : Int))), ((0 : Int), (13 : Int))) else
 if (sumOk (m.2.length + [((IntKind.wrap .i64 (q.2.1 + (1 : Int))), (key, (body, ((1 : Int), ((0 : Int), ((0 : Int), ((0 : Int), (0 : Int))))))))].length) 80) then
 some (((m.2 ++ [((IntKind.wrap .i64 (q.2.1 + (1 : Int))), (key, (body, ((1 : Int), ((0 : Int), ((0 : Int), ((0 : Int), (0 : Int))))))))]), ((IntKind.wrap .i64 (q.2.1 + (1 : Int))), q.2.2)), ((IntKind.wrap .i64 (q.2.1 + (1 : Int))), (0 : Int))) else none) else
 if ((j.length : Int) == (64 : Int)) then some (([], ((0 : Int), (0 : Int))), ((0 : Int), (13 : Int))) else
 if (q.2.1 == (1099511627776 : Int)) then some (([], ((0 : Int), (0 : Int))), ((0 : Int), (13 : Int))) else
 if (sumOk (j.length + [((IntKind.wrap .i64 (q.2.1 + (1 : Int))), (key, (body, ((1 : Int), ((0 : Int), ((0 : Int), ((0 : Int), (0 : Int))))))))].length) 80) then
 some (((j ++ [((IntKind.wrap .i64 (q.2.1 + (1 : Int))), (key, (body, ((1 : Int), ((0 : Int), ((0 : Int), ((0 : Int), (0 : Int))))))))]), ((IntKind.wrap .i64 (q.2.1 + (1 : Int))), q.2.2)), ((IntKind.wrap .i64 (q.2.1 + (1 : Int))), (0 : Int))) else none
noncomputable def law15_QueueTurns_l6F (self : ((Int × ((List Str) × Int)) × (((List (Int × (Str × (Str × (Int × (Int × (Int × (Int × Int)))))))) × (Int × Int)) × ((List Int) × (List (Str × Bool))))) → Option ((((List (Int × (Str × (Str × (Int × (Int × (Int × (Int × Int)))))))) × (Int × Int)) × (List Int)) ⊕ Bool)) : ((Int × ((List Str) × Int)) × (((List (Int × (Str × (Str × (Int × (Int × (Int × (Int × Int)))))))) × (Int × Int)) × ((List Int) × (List (Str × Bool))))) → Option ((((List (Int × (Str × (Str × (Int × (Int × (Int × (Int × Int)))))))) × (Int × Int)) × (List Int)) ⊕ Bool) := fun ((x29, x27, x28), c, c1, c2) =>
 if (decide (x29 < x28)) then (if ((0 : Int) ≤ x29) then
 if (x29 < (x27.length : Int)) then
 if (decide (x29 ≥ (20 : Int))) then some (.inl (c, c1)) else
 if ((0 : Int) ≤ (min ((elt .str x27 x29.toNat).length : Int) (100 : Int))) then
 if ((min ((elt .str x27 x29.toNat).length : Int) (100 : Int)) ≤ ((elt .str x27 x29.toNat).length : Int)) then
 queue_Add (c, ((List.take (min ((elt .str x27 x29.toNat).length : Int) (100 : Int)).toNat (elt .str x27 x29.toNat)), ([98] : Str))) >>= fun a =>
 if (!((mget .str .bool (List.take (min ((elt .str x27 x29.toNat).length : Int) (100 : Int)).toNat (elt .str x27 x29.toNat)) c2) == (a.2.2 == (17 : Int)))) then some (.inr false) else
 if (!(mget .str .bool (List.take (min ((elt .str x27 x29.toNat).length : Int) (100 : Int)).toNat (elt .str x27 x29.toNat)) c2)) then (if (a.2.2 != (0 : Int)) then some (.inr false) else
 if (a.2.2 == (0 : Int)) then (if (sumOk (c1.length + [a.2.1].length) 8) then
 self (((IntKind.wrap .i64 (x29 + (1 : Int))), (x27, x28)), (a.1, ((c1 ++ [a.2.1]), (mset .str .bool (List.take (min ((elt .str x27 x29.toNat).length : Int) (100 : Int)).toNat (elt .str x27 x29.toNat)) true c2)))) else none) else
 self (((IntKind.wrap .i64 (x29 + (1 : Int))), (x27, x28)), (c, (c1, (mset .str .bool (List.take (min ((elt .str x27 x29.toNat).length : Int) (100 : Int)).toNat (elt .str x27 x29.toNat)) true c2))))) else
 if (a.2.2 == (0 : Int)) then (if (sumOk (c1.length + [a.2.1].length) 8) then
 self (((IntKind.wrap .i64 (x29 + (1 : Int))), (x27, x28)), (a.1, ((c1 ++ [a.2.1]), (mset .str .bool (List.take (min ((elt .str x27 x29.toNat).length : Int) (100 : Int)).toNat (elt .str x27 x29.toNat)) true c2)))) else none) else
 self (((IntKind.wrap .i64 (x29 + (1 : Int))), (x27, x28)), (c, (c1, (mset .str .bool (List.take (min ((elt .str x27 x29.toNat).length : Int) (100 : Int)).toNat (elt .str x27 x29.toNat)) true c2)))) else none else none else none else none) else
 some (.inl (c, c1))
noncomputable def law15_QueueTurns_l6 : ((Int × ((List Str) × Int)) × (((List (Int × (Str × (Str × (Int × (Int × (Int × (Int × Int)))))))) × (Int × Int)) × ((List Int) × (List (Str × Bool))))) → Option ((((List (Int × (Str × (Str × (Int × (Int × (Int × (Int × Int)))))))) × (Int × Int)) × (List Int)) ⊕ Bool) := fixO (B := fun _ => (((List (Int × (Str × (Str × (Int × (Int × (Int × (Int × Int)))))))) × (Int × Int)) × (List Int)) ⊕ Bool) law15_QueueTurns_l6F
theorem law15_QueueTurns_l6_eq (q : ((Int × ((List Str) × Int)) × (((List (Int × (Str × (Str × (Int × (Int × (Int × (Int × Int)))))))) × (Int × Int)) × ((List Int) × (List (Str × Bool)))))) : law15_QueueTurns_l6 q = law15_QueueTurns_l6F law15_QueueTurns_l6 q := fixO_eq (B := fun _ => (((List (Int × (Str × (Str × (Int × (Int × (Int × (Int × Int)))))))) × (Int × Int)) × (List Int)) ⊕ Bool) (fun ((x29, x27, x28), c, c1, c2) => (.ite (.ite (.ite (.ite (.const _) (.ite (.ite (.bind (.const _) fun _ => (.ite (.const _) (.ite (.ite (.const _) (.ite (.ite (.app _) (.const _)) (.app _))) (.ite (.ite (.app _) (.const _)) (.app _))))) (.const _)) (.const _))) (.const _)) (.const _)) (.const _))) q
noncomputable def queue_Lease_1_e4g : ((Int × (Str × (Str × (Int × (Int × (Int × (Int × Int))))))) × Int) → Option ((Bool × Int)) := fun (j, c) =>
 queue_open j >>= fun o =>
 if o then some ((decide (j.2.2.2.2.2.2.1 ≤ c)), c) else
 some (false, c)
noncomputable def slices_IndexFunc_api_Job_f3f_l3F (self : ((Int × ((List (Int × (Str × (Str × (Int × (Int × (Int × (Int × Int)))))))) × Int)) × Int) → Option ((Int × Int) ⊕ Int)) : ((Int × ((List (Int × (Str × (Str × (Int × (Int × (Int × (Int × Int)))))))) × Int)) × Int) → Option ((Int × Int) ⊕ Int) := fun ((x8, s, x7), c) =>
 if (decide (x8 < x7)) then (if ((0 : Int) ≤ x8) then
 if (x8 < (s.length : Int)) then
 queue_Lease_1_e4g ((elt (.pair (.int .i64) (.pair .str (.pair .str (.pair (.int .i64) (.pair (.int .i64) (.pair (.int .i64) (.pair (.int .i64) (.int .i64)))))))) s x8.toNat), c) >>= fun l =>
 if l.1 then some (.inl (x8, l.2)) else
 self (((IntKind.wrap .i64 (x8 + (1 : Int))), (s, x7)), l.2) else none else none) else
 some (.inr c)
noncomputable def slices_IndexFunc_api_Job_f3f_l3 : ((Int × ((List (Int × (Str × (Str × (Int × (Int × (Int × (Int × Int)))))))) × Int)) × Int) → Option ((Int × Int) ⊕ Int) := fixO (B := fun _ => (Int × Int) ⊕ Int) slices_IndexFunc_api_Job_f3f_l3F
theorem slices_IndexFunc_api_Job_f3f_l3_eq (q : ((Int × ((List (Int × (Str × (Str × (Int × (Int × (Int × (Int × Int)))))))) × Int)) × Int)) : slices_IndexFunc_api_Job_f3f_l3 q = slices_IndexFunc_api_Job_f3f_l3F slices_IndexFunc_api_Job_f3f_l3 q := fixO_eq (B := fun _ => (Int × Int) ⊕ Int) (fun ((x8, s, x7), c) => (.ite (.ite (.ite (.bind (.const _) fun _ => (.ite (.const _) (.app _))) (.const _)) (.const _)) (.const _))) q
noncomputable def slices_IndexFunc_api_Job_f3f : ((List (Int × (Str × (Str × (Int × (Int × (Int × (Int × Int)))))))) × Int) → Option ((Int × Int)) := fun (s, c) =>
 slices_IndexFunc_api_Job_f3f_l3 (((0 : Int), (s, (s.length : Int))), c) >>= fun r =>
 Sum.elim (fun r1 => some r1) (fun r1 => some ((-1 : Int), r1)) r
noncomputable def slices_ContainsFunc_api_Job_f3f : ((List (Int × (Str × (Str × (Int × (Int × (Int × (Int × Int)))))))) × Int) → Option ((Bool × Int)) := fun (s, c) =>
 slices_IndexFunc_api_Job_f3f (s, c) >>= fun j =>
 some ((decide (j.1 ≥ (0 : Int))), j.2)
noncomputable def queue_later : (Int × Int) → Option (Int) := fun (now, by1) =>
 some (min (IntKind.wrap .i64 (now + by1)) (1099511627776 : Int))
noncomputable def queue_Lease_l12F (self : ((Int × (Int × Int)) × (((List (Int × (Str × (Str × (Int × (Int × (Int × (Int × Int)))))))) × (Int × Int)) × ((Int × (Str × (Str × (Int × (Int × (Int × (Int × Int))))))) × ((Int × Int) × (Int × (List (Int × (Str × (Str × (Int × (Int × (Int × (Int × Int))))))))))))) → Option ((Int × ((Int × Int) × ((Int × (Str × (Str × (Int × (Int × (Int × (Int × Int))))))) × (List (Int × (Str × (Str × (Int × (Int × (Int × (Int × Int))))))))))) ⊕ (((List (Int × (Str × (Str × (Int × (Int × (Int × (Int × Int)))))))) × (Int × Int)) × ((Int × (Str × (Str × (Int × (Int × (Int × (Int × Int))))))) × ((Int × Int) × (List (Int × (Str × (Str × (Int × (Int × (Int × (Int × Int))))))))))))) : ((Int × (Int × Int)) × (((List (Int × (Str × (Str × (Int × (Int × (Int × (Int × Int)))))))) × (Int × Int)) × ((Int × (Str × (Str × (Int × (Int × (Int × (Int × Int))))))) × ((Int × Int) × (Int × (List (Int × (Str × (Str × (Int × (Int × (Int × (Int × Int))))))))))))) → Option ((Int × ((Int × Int) × ((Int × (Str × (Str × (Int × (Int × (Int × (Int × Int))))))) × (List (Int × (Str × (Str × (Int × (Int × (Int × (Int × Int))))))))))) ⊕ (((List (Int × (Str × (Str × (Int × (Int × (Int × (Int × Int)))))))) × (Int × Int)) × ((Int × (Str × (Str × (Int × (Int × (Int × (Int × Int))))))) × ((Int × Int) × (List (Int × (Str × (Str × (Int × (Int × (Int × (Int × Int)))))))))))) := fun ((x47, span, x46), c, c1, c2, c3, c4) =>
 if (decide (x47 < x46)) then (if ((0 : Int) ≤ x47) then
 if (x47 < (c4.length : Int)) then
 if (x47.toNat < c4.length) then
 queue_Lease_1_e4g ((elt (.pair (.int .i64) (.pair .str (.pair .str (.pair (.int .i64) (.pair (.int .i64) (.pair (.int .i64) (.pair (.int .i64) (.int .i64)))))))) c4 x47.toNat), c3) >>= fun l =>
 if (!l.1) then (self (((IntKind.wrap .i64 (x47 + (1 : Int))), (span, x46)), (c, (c1, (c2, (l.2, c4)))))) else
 if (x47.toNat < c4.length) then
 if ((elt (.pair (.int .i64) (.pair .str (.pair .str (.pair (.int .i64) (.pair (.int .i64) (.pair (.int .i64) (.pair (.int .i64) (.int .i64)))))))) c4 x47.toNat).2.2.2.2.1 == (10 : Int)) then (if (x47.toNat < c4.length) then
 some ((List.set c4 x47.toNat ((elt (.pair (.int .i64) (.pair .str (.pair .str (.pair (.int .i64) (.pair (.int .i64) (.pair (.int .i64) (.pair (.int .i64) (.int .i64)))))))) c4 x47.toNat).1, ((elt (.pair (.int .i64) (.pair .str (.pair .str (.pair (.int .i64) (.pair (.int .i64) (.pair (.int .i64) (.pair (.int .i64) (.int .i64)))))))) c4 x47.toNat).2.1, ((elt (.pair (.int .i64) (.pair .str (.pair .str (.pair (.int .i64) (.pair (.int .i64) (.pair (.int .i64) (.pair (.int .i64) (.int .i64)))))))) c4 x47.toNat).2.2.1, ((5 : Int), (elt (.pair (.int .i64) (.pair .str (.pair .str (.pair (.int .i64) (.pair (.int .i64) (.pair (.int .i64) (.pair (.int .i64) (.int .i64)))))))) c4 x47.toNat).2.2.2.2)))))) >>= fun row =>
 self (((IntKind.wrap .i64 (x47 + (1 : Int))), (span, x46)), (c, (c1, (c2, (l.2, row))))) else none) else
 if (x47.toNat < c4.length) then
 queue_later (l.2, span) >>= fun l1 =>
 if (x47.toNat < c4.length) then
 some ((List.set c4 x47.toNat ((elt (.pair (.int .i64) (.pair .str (.pair .str (.pair (.int .i64) (.pair (.int .i64) (.pair (.int .i64) (.pair (.int .i64) (.int .i64)))))))) c4 x47.toNat).1, ((elt (.pair (.int .i64) (.pair .str (.pair .str (.pair (.int .i64) (.pair (.int .i64) (.pair (.int .i64) (.pair (.int .i64) (.int .i64)))))))) c4 x47.toNat).2.1, ((elt (.pair (.int .i64) (.pair .str (.pair .str (.pair (.int .i64) (.pair (.int .i64) (.pair (.int .i64) (.pair (.int .i64) (.int .i64)))))))) c4 x47.toNat).2.2.1, ((2 : Int), (elt (.pair (.int .i64) (.pair .str (.pair .str (.pair (.int .i64) (.pair (.int .i64) (.pair (.int .i64) (.pair (.int .i64) (.int .i64)))))))) c4 x47.toNat).2.2.2.2)))))) >>= fun row =>
 if (x47.toNat < row.length) then
 some ((List.set row x47.toNat ((elt (.pair (.int .i64) (.pair .str (.pair .str (.pair (.int .i64) (.pair (.int .i64) (.pair (.int .i64) (.pair (.int .i64) (.int .i64)))))))) row x47.toNat).1, ((elt (.pair (.int .i64) (.pair .str (.pair .str (.pair (.int .i64) (.pair (.int .i64) (.pair (.int .i64) (.pair (.int .i64) (.int .i64)))))))) row x47.toNat).2.1, ((elt (.pair (.int .i64) (.pair .str (.pair .str (.pair (.int .i64) (.pair (.int .i64) (.pair (.int .i64) (.pair (.int .i64) (.int .i64)))))))) row x47.toNat).2.2.1, ((elt (.pair (.int .i64) (.pair .str (.pair .str (.pair (.int .i64) (.pair (.int .i64) (.pair (.int .i64) (.pair (.int .i64) (.int .i64)))))))) row x47.toNat).2.2.2.1, ((elt (.pair (.int .i64) (.pair .str (.pair .str (.pair (.int .i64) (.pair (.int .i64) (.pair (.int .i64) (.pair (.int .i64) (.int .i64)))))))) row x47.toNat).2.2.2.2.1, ((IntKind.wrap .i64 (c2.2 + (1 : Int))), (elt (.pair (.int .i64) (.pair .str (.pair .str (.pair (.int .i64) (.pair (.int .i64) (.pair (.int .i64) (.pair (.int .i64) (.int .i64)))))))) row x47.toNat).2.2.2.2.2.2)))))))) >>= fun row1 =>
 if (x47.toNat < row1.length) then
 some ((List.set row1 x47.toNat ((elt (.pair (.int .i64) (.pair .str (.pair .str (.pair (.int .i64) (.pair (.int .i64) (.pair (.int .i64) (.pair (.int .i64) (.int .i64)))))))) row1 x47.toNat).1, ((elt (.pair (.int .i64) (.pair .str (.pair .str (.pair (.int .i64) (.pair (.int .i64) (.pair (.int .i64) (.pair (.int .i64) (.int .i64)))))))) row1 x47.toNat).2.1, ((elt (.pair (.int .i64) (.pair .str (.pair .str (.pair (.int .i64) (.pair (.int .i64) (.pair (.int .i64) (.pair (.int .i64) (.int .i64)))))))) row1 x47.toNat).2.2.1, ((elt (.pair (.int .i64) (.pair .str (.pair .str (.pair (.int .i64) (.pair (.int .i64) (.pair (.int .i64) (.pair (.int .i64) (.int .i64)))))))) row1 x47.toNat).2.2.2.1, ((IntKind.wrap .i64 ((elt (.pair (.int .i64) (.pair .str (.pair .str (.pair (.int .i64) (.pair (.int .i64) (.pair (.int .i64) (.pair (.int .i64) (.int .i64)))))))) c4 x47.toNat).2.2.2.2.1 + (1 : Int))), (elt (.pair (.int .i64) (.pair .str (.pair .str (.pair (.int .i64) (.pair (.int .i64) (.pair (.int .i64) (.pair (.int .i64) (.int .i64)))))))) row1 x47.toNat).2.2.2.2.2))))))) >>= fun row2 =>
 if (x47.toNat < row2.length) then
 some ((List.set row2 x47.toNat ((elt (.pair (.int .i64) (.pair .str (.pair .str (.pair (.int .i64) (.pair (.int .i64) (.pair (.int .i64) (.pair (.int .i64) (.int .i64)))))))) row2 x47.toNat).1, ((elt (.pair (.int .i64) (.pair .str (.pair .str (.pair (.int .i64) (.pair (.int .i64) (.pair (.int .i64) (.pair (.int .i64) (.int .i64)))))))) row2 x47.toNat).2.1, ((elt (.pair (.int .i64) (.pair .str (.pair .str (.pair (.int .i64) (.pair (.int .i64) (.pair (.int .i64) (.pair (.int .i64) (.int .i64)))))))) row2 x47.toNat).2.2.1, ((elt (.pair (.int .i64) (.pair .str (.pair .str (.pair (.int .i64) (.pair (.int .i64) (.pair (.int .i64) (.pair (.int .i64) (.int .i64)))))))) row2 x47.toNat).2.2.2.1, ((elt (.pair (.int .i64) (.pair .str (.pair .str (.pair (.int .i64) (.pair (.int .i64) (.pair (.int .i64) (.pair (.int .i64) (.int .i64)))))))) row2 x47.toNat).2.2.2.2.1, ((elt (.pair (.int .i64) (.pair .str (.pair .str (.pair (.int .i64) (.pair (.int .i64) (.pair (.int .i64) (.pair (.int .i64) (.int .i64)))))))) row2 x47.toNat).2.2.2.2.2.1, (l1, (elt (.pair (.int .i64) (.pair .str (.pair .str (.pair (.int .i64) (.pair (.int .i64) (.pair (.int .i64) (.pair (.int .i64) (.int .i64)))))))) row2 x47.toNat).2.2.2.2.2.2.2))))))))) >>= fun row3 =>
 if (x47.toNat < row3.length) then
 some (.inl ((0 : Int), ((c2.1, (IntKind.wrap .i64 (c2.2 + (1 : Int)))), ((elt (.pair (.int .i64) (.pair .str (.pair .str (.pair (.int .i64) (.pair (.int .i64) (.pair (.int .i64) (.pair (.int .i64) (.int .i64)))))))) row3 x47.toNat), row3)))) else none else none else none else none else none else none else none else none else none else none) else
 some (.inr (c, (c1, (c2, c4))))
noncomputable def queue_Lease_l12 : ((Int × (Int × Int)) × (((List (Int × (Str × (Str × (Int × (Int × (Int × (Int × Int)))))))) × (Int × Int)) × ((Int × (Str × (Str × (Int × (Int × (Int × (Int × Int))))))) × ((Int × Int) × (Int × (List (Int × (Str × (Str × (Int × (Int × (Int × (Int × Int))))))))))))) → Option ((Int × ((Int × Int) × ((Int × (Str × (Str × (Int × (Int × (Int × (Int × Int))))))) × (List (Int × (Str × (Str × (Int × (Int × (Int × (Int × Int))))))))))) ⊕ (((List (Int × (Str × (Str × (Int × (Int × (Int × (Int × Int)))))))) × (Int × Int)) × ((Int × (Str × (Str × (Int × (Int × (Int × (Int × Int))))))) × ((Int × Int) × (List (Int × (Str × (Str × (Int × (Int × (Int × (Int × Int)))))))))))) := fixO (B := fun _ => (Int × ((Int × Int) × ((Int × (Str × (Str × (Int × (Int × (Int × (Int × Int))))))) × (List (Int × (Str × (Str × (Int × (Int × (Int × (Int × Int))))))))))) ⊕ (((List (Int × (Str × (Str × (Int × (Int × (Int × (Int × Int)))))))) × (Int × Int)) × ((Int × (Str × (Str × (Int × (Int × (Int × (Int × Int))))))) × ((Int × Int) × (List (Int × (Str × (Str × (Int × (Int × (Int × (Int × Int)))))))))))) queue_Lease_l12F
theorem queue_Lease_l12_eq (q : ((Int × (Int × Int)) × (((List (Int × (Str × (Str × (Int × (Int × (Int × (Int × Int)))))))) × (Int × Int)) × ((Int × (Str × (Str × (Int × (Int × (Int × (Int × Int))))))) × ((Int × Int) × (Int × (List (Int × (Str × (Str × (Int × (Int × (Int × (Int × Int)))))))))))))) : queue_Lease_l12 q = queue_Lease_l12F queue_Lease_l12 q := fixO_eq (B := fun _ => (Int × ((Int × Int) × ((Int × (Str × (Str × (Int × (Int × (Int × (Int × Int))))))) × (List (Int × (Str × (Str × (Int × (Int × (Int × (Int × Int))))))))))) ⊕ (((List (Int × (Str × (Str × (Int × (Int × (Int × (Int × Int)))))))) × (Int × Int)) × ((Int × (Str × (Str × (Int × (Int × (Int × (Int × Int))))))) × ((Int × Int) × (List (Int × (Str × (Str × (Int × (Int × (Int × (Int × Int)))))))))))) (fun ((x47, span, x46), c, c1, c2, c3, c4) => (.ite (.ite (.ite (.ite (.bind (.const _) fun _ => (.ite (.app _) (.ite (.ite (.ite (.bind (.const _) fun _ => (.app _)) (.const _)) (.const _)) (.const _)))) (.const _)) (.const _)) (.const _)) (.const _))) q
noncomputable def queue_Lease : (((List (Int × (Str × (Str × (Int × (Int × (Int × (Int × Int)))))))) × (Int × Int)) × (Int × Int)) → Option ((((List (Int × (Str × (Str × (Int × (Int × (Int × (Int × Int)))))))) × (Int × Int)) × ((Int × (Str × (Str × (Int × (Int × (Int × (Int × Int))))))) × Int))) := fun (q, now, span) =>
 queue_Right q >>= fun r =>
 if (!r) then some (([], ((0 : Int), (0 : Int))), (((0 : Int), ([], ([], ((0 : Int), ((0 : Int), ((0 : Int), ((0 : Int), (0 : Int)))))))), (1 : Int))) else
 queue_within [now, span] >>= fun w =>
 if (!w) then some (([], ((0 : Int), (0 : Int))), (((0 : Int), ([], ([], ((0 : Int), ((0 : Int), ((0 : Int), ((0 : Int), (0 : Int)))))))), (1 : Int))) else
 slices_ContainsFunc_api_Job_f3f (q.1, now) >>= fun j =>
 if (!j.1) then some (([], ((0 : Int), (0 : Int))), (((0 : Int), ([], ([], ((0 : Int), ((0 : Int), ((0 : Int), ((0 : Int), (0 : Int)))))))), (9 : Int))) else
 if (q.2.2 == (1099511627776 : Int)) then some (([], ((0 : Int), (0 : Int))), (((0 : Int), ([], ([], ((0 : Int), ((0 : Int), ((0 : Int), ((0 : Int), (0 : Int)))))))), (13 : Int))) else
 slices_Clone_api_Job q.1 >>= fun j1 =>
 queue_Lease_l12 (((0 : Int), (span, (j1.length : Int))), (([], ((0 : Int), (0 : Int))), (((0 : Int), ([], ([], ((0 : Int), ((0 : Int), ((0 : Int), ((0 : Int), (0 : Int)))))))), (q.2, (j.2, j1))))) >>= fun r1 =>
 Sum.elim (fun r2 => some ((r2.2.2.2, r2.2.1), (r2.2.2.1, r2.1))) (fun r2 => some ((r2.2.2.2, r2.2.2.1), (((0 : Int), ([], ([], ((0 : Int), ((0 : Int), ((0 : Int), ((0 : Int), (0 : Int)))))))), (0 : Int)))) r1
noncomputable def queue_change_1_e4g : ((Int × (Str × (Str × (Int × (Int × (Int × (Int × Int))))))) × Int) → Option ((Bool × Int)) := fun (j, c) =>
 some ((j.1 == c), c)
noncomputable def slices_IndexFunc_api_Job_sfo_l3F (self : ((Int × ((List (Int × (Str × (Str × (Int × (Int × (Int × (Int × Int)))))))) × Int)) × Int) → Option ((Int × Int) ⊕ Int)) : ((Int × ((List (Int × (Str × (Str × (Int × (Int × (Int × (Int × Int)))))))) × Int)) × Int) → Option ((Int × Int) ⊕ Int) := fun ((x8, s, x7), c) =>
 if (decide (x8 < x7)) then (if ((0 : Int) ≤ x8) then
 if (x8 < (s.length : Int)) then
 queue_change_1_e4g ((elt (.pair (.int .i64) (.pair .str (.pair .str (.pair (.int .i64) (.pair (.int .i64) (.pair (.int .i64) (.pair (.int .i64) (.int .i64)))))))) s x8.toNat), c) >>= fun c1 =>
 if c1.1 then some (.inl (x8, c1.2)) else
 self (((IntKind.wrap .i64 (x8 + (1 : Int))), (s, x7)), c1.2) else none else none) else
 some (.inr c)
noncomputable def slices_IndexFunc_api_Job_sfo_l3 : ((Int × ((List (Int × (Str × (Str × (Int × (Int × (Int × (Int × Int)))))))) × Int)) × Int) → Option ((Int × Int) ⊕ Int) := fixO (B := fun _ => (Int × Int) ⊕ Int) slices_IndexFunc_api_Job_sfo_l3F
theorem slices_IndexFunc_api_Job_sfo_l3_eq (q : ((Int × ((List (Int × (Str × (Str × (Int × (Int × (Int × (Int × Int)))))))) × Int)) × Int)) : slices_IndexFunc_api_Job_sfo_l3 q = slices_IndexFunc_api_Job_sfo_l3F slices_IndexFunc_api_Job_sfo_l3 q := fixO_eq (B := fun _ => (Int × Int) ⊕ Int) (fun ((x8, s, x7), c) => (.ite (.ite (.ite (.bind (.const _) fun _ => (.ite (.const _) (.app _))) (.const _)) (.const _)) (.const _))) q
noncomputable def slices_IndexFunc_api_Job_sfo : ((List (Int × (Str × (Str × (Int × (Int × (Int × (Int × Int)))))))) × Int) → Option ((Int × Int)) := fun (s, c) =>
 slices_IndexFunc_api_Job_sfo_l3 (((0 : Int), (s, (s.length : Int))), c) >>= fun r =>
 Sum.elim (fun r1 => some r1) (fun r1 => some ((-1 : Int), r1)) r
noncomputable def queue_Done_1_o19 : (Int × (List (Int × (Str × (Str × (Int × (Int × (Int × (Int × Int))))))))) → Option ((Int × (List (Int × (Str × (Str × (Int × (Int × (Int × (Int × Int)))))))))) := fun (j, c) =>
 if (j.toNat < c.length) then
 some ((0 : Int), (List.set c j.toNat ((elt (.pair (.int .i64) (.pair .str (.pair .str (.pair (.int .i64) (.pair (.int .i64) (.pair (.int .i64) (.pair (.int .i64) (.int .i64)))))))) c j.toNat).1, ((elt (.pair (.int .i64) (.pair .str (.pair .str (.pair (.int .i64) (.pair (.int .i64) (.pair (.int .i64) (.pair (.int .i64) (.int .i64)))))))) c j.toNat).2.1, ((elt (.pair (.int .i64) (.pair .str (.pair .str (.pair (.int .i64) (.pair (.int .i64) (.pair (.int .i64) (.pair (.int .i64) (.int .i64)))))))) c j.toNat).2.2.1, ((3 : Int), (elt (.pair (.int .i64) (.pair .str (.pair .str (.pair (.int .i64) (.pair (.int .i64) (.pair (.int .i64) (.pair (.int .i64) (.int .i64)))))))) c j.toNat).2.2.2.2)))))) else none
noncomputable def queue_leased_1_ydq : (Int × ((List (Int × (Str × (Str × (Int × (Int × (Int × (Int × Int)))))))) × Int)) → Option ((Int × ((List (Int × (Str × (Str × (Int × (Int × (Int × (Int × Int)))))))) × Int))) := fun (j, c, c1) =>
 if (j.toNat < c.length) then
 if ((elt (.pair (.int .i64) (.pair .str (.pair .str (.pair (.int .i64) (.pair (.int .i64) (.pair (.int .i64) (.pair (.int .i64) (.int .i64)))))))) c j.toNat).2.2.2.1 != (2 : Int)) then some ((15 : Int), (c, c1)) else
 if (j.toNat < c.length) then
 if ((elt (.pair (.int .i64) (.pair .str (.pair .str (.pair (.int .i64) (.pair (.int .i64) (.pair (.int .i64) (.pair (.int .i64) (.int .i64)))))))) c j.toNat).2.2.2.2.2.1 != c1) then some ((16 : Int), (c, c1)) else
 queue_Done_1_o19 ((j.toNat : Int), c) >>= fun d =>
 some (d.1, (d.2, c1)) else none else none
noncomputable def queue_change_01i : ((((List (Int × (Str × (Str × (Int × (Int × (Int × (Int × Int)))))))) × (Int × Int)) × (Int × Bool)) × Int) → Option (((((List (Int × (Str × (Str × (Int × (Int × (Int × (Int × Int)))))))) × (Int × Int)) × Int) × Int)) := fun ((q, id, times), c) =>
 queue_Right q >>= fun r =>
 if (!r) then some ((([], ((0 : Int), (0 : Int))), (1 : Int)), c) else
 if (!times) then some ((([], ((0 : Int), (0 : Int))), (1 : Int)), c) else
 slices_IndexFunc_api_Job_sfo (q.1, id) >>= fun s =>
 if (decide (s.1 < (0 : Int))) then some ((([], ((0 : Int), (0 : Int))), (9 : Int)), c) else
 slices_Clone_api_Job q.1 >>= fun j =>
 if ((0 : Int) ≤ s.1) then
 if (s.1 < (j.length : Int)) then
 queue_leased_1_ydq ((s.1.toNat : Int), (j, c)) >>= fun y =>
 if (y.1 != (0 : Int)) then some ((([], ((0 : Int), (0 : Int))), y.1), y.2.2) else
 some (((y.2.1, q.2), (0 : Int)), y.2.2) else none else none
noncomputable def queue_leased_8rr : (((List (Int × (Str × (Str × (Int × (Int × (Int × (Int × Int)))))))) × (Int × Int)) × (Int × (Int × Bool))) → Option ((((List (Int × (Str × (Str × (Int × (Int × (Int × (Int × Int)))))))) × (Int × Int)) × Int)) := fun (q, id, token, times) =>
 queue_change_01i ((q, (id, times)), token) >>= fun c =>
 some c.1
noncomputable def queue_Done : (((List (Int × (Str × (Str × (Int × (Int × (Int × (Int × Int)))))))) × (Int × Int)) × (Int × Int)) → Option ((((List (Int × (Str × (Str × (Int × (Int × (Int × (Int × Int)))))))) × (Int × Int)) × Int)) := fun (q, id, token) =>
 queue_leased_8rr (q, (id, (token, true))) >>= fun l =>
 some l
noncomputable def queue_Stop_1_o19 : (Int × (List (Int × (Str × (Str × (Int × (Int × (Int × (Int × Int))))))))) → Option ((Int × (List (Int × (Str × (Str × (Int × (Int × (Int × (Int × Int)))))))))) := fun (j, c) =>
 if (j.toNat < c.length) then
 queue_open (elt (.pair (.int .i64) (.pair .str (.pair .str (.pair (.int .i64) (.pair (.int .i64) (.pair (.int .i64) (.pair (.int .i64) (.int .i64)))))))) c j.toNat) >>= fun o =>
 if (!o) then some ((15 : Int), c) else
 if (j.toNat < c.length) then
 some ((0 : Int), (List.set c j.toNat ((elt (.pair (.int .i64) (.pair .str (.pair .str (.pair (.int .i64) (.pair (.int .i64) (.pair (.int .i64) (.pair (.int .i64) (.int .i64)))))))) c j.toNat).1, ((elt (.pair (.int .i64) (.pair .str (.pair .str (.pair (.int .i64) (.pair (.int .i64) (.pair (.int .i64) (.pair (.int .i64) (.int .i64)))))))) c j.toNat).2.1, ((elt (.pair (.int .i64) (.pair .str (.pair .str (.pair (.int .i64) (.pair (.int .i64) (.pair (.int .i64) (.pair (.int .i64) (.int .i64)))))))) c j.toNat).2.2.1, ((4 : Int), (elt (.pair (.int .i64) (.pair .str (.pair .str (.pair (.int .i64) (.pair (.int .i64) (.pair (.int .i64) (.pair (.int .i64) (.int .i64)))))))) c j.toNat).2.2.2.2)))))) else none else none
noncomputable def queue_change_srr : (((List (Int × (Str × (Str × (Int × (Int × (Int × (Int × Int)))))))) × (Int × Int)) × (Int × Bool)) → Option ((((List (Int × (Str × (Str × (Int × (Int × (Int × (Int × Int)))))))) × (Int × Int)) × Int)) := fun (q, id, times) =>
 queue_Right q >>= fun r =>
 if (!r) then some (([], ((0 : Int), (0 : Int))), (1 : Int)) else
 if (!times) then some (([], ((0 : Int), (0 : Int))), (1 : Int)) else
 slices_IndexFunc_api_Job_sfo (q.1, id) >>= fun s =>
 if (decide (s.1 < (0 : Int))) then some (([], ((0 : Int), (0 : Int))), (9 : Int)) else
 slices_Clone_api_Job q.1 >>= fun j =>
 if ((0 : Int) ≤ s.1) then
 if (s.1 < (j.length : Int)) then
 queue_Stop_1_o19 ((s.1.toNat : Int), j) >>= fun s1 =>
 if (s1.1 != (0 : Int)) then some (([], ((0 : Int), (0 : Int))), s1.1) else
 some ((s1.2, q.2), (0 : Int)) else none else none
noncomputable def queue_Stop : (((List (Int × (Str × (Str × (Int × (Int × (Int × (Int × Int)))))))) × (Int × Int)) × Int) → Option ((((List (Int × (Str × (Str × (Int × (Int × (Int × (Int × Int)))))))) × (Int × Int)) × Int)) := fun (q, id) =>
 queue_change_srr (q, (id, true)) >>= fun s =>
 some s
noncomputable def law15_QueueTurns_l22F (self : ((Int × Int) × (((List (Int × (Str × (Str × (Int × (Int × (Int × (Int × Int)))))))) × (Int × Int)) × (List Int))) → Option (Bool ⊕ ((List Int) × ((List (Int × (Str × (Str × (Int × (Int × (Int × (Int × Int)))))))) × (Int × Int))))) : ((Int × Int) × (((List (Int × (Str × (Str × (Int × (Int × (Int × (Int × Int)))))))) × (Int × Int)) × (List Int))) → Option (Bool ⊕ ((List Int) × ((List (Int × (Str × (Str × (Int × (Int × (Int × (Int × Int)))))))) × (Int × Int)))) := fun ((x76, x75), c, c1) =>
 if (decide (x76 < x75)) then (if ((0 : Int) ≤ x76) then
 if (x76 < (c1.length : Int)) then
 if (x76.toNat < c1.length) then
 queue_Lease (c, ((7 : Int), (5 : Int))) >>= fun l =>
 if (l.2.2 != (0 : Int)) then some (.inl false) else
 if (l.2.1.1 != (elt (.int .i64) c1 x76.toNat)) then some (.inl false) else
 if (l.2.1.2.2.2.2.2.1 != (IntKind.wrap .i64 (x76 + (1 : Int)))) then some (.inl false) else
 queue_Done (l.1, ((elt (.int .i64) c1 x76.toNat), l.2.1.2.2.2.2.2.1)) >>= fun d =>
 queue_Add (d.1, (l.2.1.2.1, ([97, 103, 97, 105, 110] : Str))) >>= fun a =>
 if (d.2 != (0 : Int)) then some (.inl false) else
 if (a.2.2 != (0 : Int)) then some (.inl false) else
 if (decide (a.2.1 ≤ (elt (.int .i64) c1 x76.toNat))) then some (.inl false) else
 queue_Stop (a.1, a.2.1) >>= fun s =>
 if (s.2 != (0 : Int)) then some (.inl false) else
 self (((IntKind.wrap .i64 (x76 + (1 : Int))), x75), (s.1, c1)) else none else none else none) else
 some (.inr (c1, c))
noncomputable def law15_QueueTurns_l22 : ((Int × Int) × (((List (Int × (Str × (Str × (Int × (Int × (Int × (Int × Int)))))))) × (Int × Int)) × (List Int))) → Option (Bool ⊕ ((List Int) × ((List (Int × (Str × (Str × (Int × (Int × (Int × (Int × Int)))))))) × (Int × Int)))) := fixO (B := fun _ => Bool ⊕ ((List Int) × ((List (Int × (Str × (Str × (Int × (Int × (Int × (Int × Int)))))))) × (Int × Int)))) law15_QueueTurns_l22F
theorem law15_QueueTurns_l22_eq (q : ((Int × Int) × (((List (Int × (Str × (Str × (Int × (Int × (Int × (Int × Int)))))))) × (Int × Int)) × (List Int)))) : law15_QueueTurns_l22 q = law15_QueueTurns_l22F law15_QueueTurns_l22 q := fixO_eq (B := fun _ => Bool ⊕ ((List Int) × ((List (Int × (Str × (Str × (Int × (Int × (Int × (Int × Int)))))))) × (Int × Int)))) (fun ((x76, x75), c, c1) => (.ite (.ite (.ite (.ite (.bind (.const _) fun _ => (.ite (.const _) (.ite (.const _) (.ite (.const _) (.bind (.const _) fun _ => (.bind (.const _) fun _ => (.ite (.const _) (.ite (.const _) (.ite (.const _) (.bind (.const _) fun _ => (.ite (.const _) (.app _)))))))))))) (.const _)) (.const _)) (.const _)) (.const _))) q
noncomputable def law15_alive : Unit → Option (Bool) := fun _ =>
 queue_Add (([], ((0 : Int), (0 : Int))), (([107] : Str), ([98] : Str))) >>= fun a =>
 queue_Lease (a.1, ((0 : Int), (5 : Int))) >>= fun l =>
 queue_Done (l.1, (a.2.1, l.2.1.2.2.2.2.2.1)) >>= fun d =>
 if (a.2.2 == (0 : Int)) then (if (l.2.2 == (0 : Int)) then (if (d.2 == (0 : Int)) then (if (a.2.1 == (1 : Int)) then (if (l.2.1.2.2.2.2.1 == (1 : Int)) then (if ((d.1.1.length : Int) == (1 : Int)) then (if ((0 : Int) < (d.1.1.length : Int)) then
 some ((elt (.pair (.int .i64) (.pair .str (.pair .str (.pair (.int .i64) (.pair (.int .i64) (.pair (.int .i64) (.pair (.int .i64) (.int .i64)))))))) d.1.1 0).2.2.2.1 == (3 : Int)) else none) else
 some false) else
 some false) else
 some false) else
 some false) else
 some false) else
 some false
noncomputable def queue_Count_l4F (self : ((Int × ((List (Int × (Str × (Str × (Int × (Int × (Int × (Int × Int)))))))) × Int)) × ((Int × (Int × (Int × (Int × (Int × Int))))) × (Int × (Int × (Int × (Int × (Int × Int))))))) → Option (((Int × (Int × (Int × (Int × (Int × Int))))) × (Int × (Int × (Int × (Int × (Int × Int)))))))) : ((Int × ((List (Int × (Str × (Str × (Int × (Int × (Int × (Int × Int)))))))) × Int)) × ((Int × (Int × (Int × (Int × (Int × Int))))) × (Int × (Int × (Int × (Int × (Int × Int))))))) → Option (((Int × (Int × (Int × (Int × (Int × Int))))) × (Int × (Int × (Int × (Int × (Int × Int))))))) := fun ((x9, x7, x8), c, c1) =>
 if (decide (x9 < x8)) then (if ((0 : Int) ≤ x9) then
 if (x9 < (x7.length : Int)) then
 if (decide ((elt (.pair (.int .i64) (.pair .str (.pair .str (.pair (.int .i64) (.pair (.int .i64) (.pair (.int .i64) (.pair (.int .i64) (.int .i64)))))))) x7 x9.toNat).2.2.2.1 > (0 : Int))) then (if (decide ((elt (.pair (.int .i64) (.pair .str (.pair .str (.pair (.int .i64) (.pair (.int .i64) (.pair (.int .i64) (.pair (.int .i64) (.int .i64)))))))) x7 x9.toNat).2.2.2.1 < (6 : Int))) then (if (decide ((elt (.pair (.int .i64) (.pair .str (.pair .str (.pair (.int .i64) (.pair (.int .i64) (.pair (.int .i64) (.pair (.int .i64) (.int .i64)))))))) x7 x9.toNat).2.2.2.1 = (5 : Int))) then (self (((IntKind.wrap .i64 (x9 + (1 : Int))), (x7, x8)), ((c.1, (c.2.1, (c.2.2.1, (c.2.2.2.1, (c.2.2.2.2.1, (IntKind.wrap .i64 (c.2.2.2.2.2 + (1 : Int)))))))), c1))) else
 if (decide ((elt (.pair (.int .i64) (.pair .str (.pair .str (.pair (.int .i64) (.pair (.int .i64) (.pair (.int .i64) (.pair (.int .i64) (.int .i64)))))))) x7 x9.toNat).2.2.2.1 = (4 : Int))) then (self (((IntKind.wrap .i64 (x9 + (1 : Int))), (x7, x8)), ((c.1, (c.2.1, (c.2.2.1, (c.2.2.2.1, ((IntKind.wrap .i64 (c.2.2.2.2.1 + (1 : Int))), c.2.2.2.2.2))))), c1))) else
 if (decide ((elt (.pair (.int .i64) (.pair .str (.pair .str (.pair (.int .i64) (.pair (.int .i64) (.pair (.int .i64) (.pair (.int .i64) (.int .i64)))))))) x7 x9.toNat).2.2.2.1 = (3 : Int))) then (self (((IntKind.wrap .i64 (x9 + (1 : Int))), (x7, x8)), ((c.1, (c.2.1, (c.2.2.1, ((IntKind.wrap .i64 (c.2.2.2.1 + (1 : Int))), c.2.2.2.2)))), c1))) else
 if (decide ((elt (.pair (.int .i64) (.pair .str (.pair .str (.pair (.int .i64) (.pair (.int .i64) (.pair (.int .i64) (.pair (.int .i64) (.int .i64)))))))) x7 x9.toNat).2.2.2.1 = (2 : Int))) then (self (((IntKind.wrap .i64 (x9 + (1 : Int))), (x7, x8)), ((c.1, (c.2.1, ((IntKind.wrap .i64 (c.2.2.1 + (1 : Int))), c.2.2.2))), c1))) else
 if (decide ((elt (.pair (.int .i64) (.pair .str (.pair .str (.pair (.int .i64) (.pair (.int .i64) (.pair (.int .i64) (.pair (.int .i64) (.int .i64)))))))) x7 x9.toNat).2.2.2.1 = (1 : Int))) then (self (((IntKind.wrap .i64 (x9 + (1 : Int))), (x7, x8)), ((c.1, ((IntKind.wrap .i64 (c.2.1 + (1 : Int))), c.2.2)), c1))) else
 if (decide ((elt (.pair (.int .i64) (.pair .str (.pair .str (.pair (.int .i64) (.pair (.int .i64) (.pair (.int .i64) (.pair (.int .i64) (.int .i64)))))))) x7 x9.toNat).2.2.2.1 = (0 : Int))) then (self (((IntKind.wrap .i64 (x9 + (1 : Int))), (x7, x8)), (((IntKind.wrap .i64 (c.1 + (1 : Int))), c.2), c1))) else
 none) else
 self (((IntKind.wrap .i64 (x9 + (1 : Int))), (x7, x8)), (((IntKind.wrap .i64 (c.1 + (1 : Int))), c.2), c1))) else
 self (((IntKind.wrap .i64 (x9 + (1 : Int))), (x7, x8)), (((IntKind.wrap .i64 (c.1 + (1 : Int))), c.2), c1)) else none else none) else
 some (c1, c)
noncomputable def queue_Count_l4 : ((Int × ((List (Int × (Str × (Str × (Int × (Int × (Int × (Int × Int)))))))) × Int)) × ((Int × (Int × (Int × (Int × (Int × Int))))) × (Int × (Int × (Int × (Int × (Int × Int))))))) → Option (((Int × (Int × (Int × (Int × (Int × Int))))) × (Int × (Int × (Int × (Int × (Int × Int))))))) := fixO (B := fun _ => ((Int × (Int × (Int × (Int × (Int × Int))))) × (Int × (Int × (Int × (Int × (Int × Int))))))) queue_Count_l4F
theorem queue_Count_l4_eq (q : ((Int × ((List (Int × (Str × (Str × (Int × (Int × (Int × (Int × Int)))))))) × Int)) × ((Int × (Int × (Int × (Int × (Int × Int))))) × (Int × (Int × (Int × (Int × (Int × Int)))))))) : queue_Count_l4 q = queue_Count_l4F queue_Count_l4 q := fixO_eq (B := fun _ => ((Int × (Int × (Int × (Int × (Int × Int))))) × (Int × (Int × (Int × (Int × (Int × Int))))))) (fun ((x9, x7, x8), c, c1) => (.ite (.ite (.ite (.ite (.ite (.ite (.app _) (.ite (.app _) (.ite (.app _) (.ite (.app _) (.ite (.app _) (.ite (.app _) (.const _))))))) (.app _)) (.app _)) (.const _)) (.const _)) (.const _))) q
noncomputable def queue_Count : ((List (Int × (Str × (Str × (Int × (Int × (Int × (Int × Int)))))))) × (Int × Int)) → Option ((Int × (Int × (Int × (Int × (Int × Int)))))) := fun q =>
 queue_Count_l4 (((0 : Int), (q.1, (q.1.length : Int))), (((0 : Int), ((0 : Int), ((0 : Int), ((0 : Int), ((0 : Int), (0 : Int)))))), ((0 : Int), ((0 : Int), ((0 : Int), ((0 : Int), ((0 : Int), (0 : Int)))))))) >>= fun r =>
 some r.2
noncomputable def law15_QueueTurns : (List Str) → Option (Bool) := fun keys =>
 law15_QueueTurns_l6 (((0 : Int), (keys, (keys.length : Int))), (([], ((0 : Int), (0 : Int))), ([], []))) >>= fun r =>
 Sum.elim (fun r1 => law15_QueueTurns_l22 (((0 : Int), (r1.2.length : Int)), r1) >>= fun r2 =>
 Sum.elim (fun r3 => some r3) (fun r3 => queue_Lease (r3.2, ((7 : Int), (5 : Int))) >>= fun l =>
 law15_alive () >>= fun a =>
 if a then (if (l.2.2 == (9 : Int)) then (queue_Count r3.2 >>= fun c =>
 if (c.2.2.2.1 == (r3.1.length : Int)) then (queue_Count r3.2 >>= fun c1 =>
 some (c1.2.2.2.2.1 == (r3.1.length : Int))) else
 some false) else
 some false) else
 some false) r2) (fun r1 => some r1) r
end Go.Plain
