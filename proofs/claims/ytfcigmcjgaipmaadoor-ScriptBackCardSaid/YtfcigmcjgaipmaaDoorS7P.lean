import Derived.Test.YtfcigmcjgaipmaaDoorBMLib
import Derived.Test.YtfcigmcjgaipmaaDoorPrn
namespace Go.Plain
open Go.AM
set_option linter.unusedVariables false
noncomputable def law20_few_l12F (self : ((Int × ((List Int) × ((List (Int × ((List Int) × (List Str)))) × (Int × (Int × Int))))) × (Int × ((Int × Int) × ((Int × Int) × ((Int × ((List Int) × (List Str))) × ((List Int) × (List (Int × ((List Int) × (List Str)))))))))) → Option ((((List (Int × ((List Int) × (List Str)))) × (Int × Int)) × (Int × ((Int × Int) × ((Int × Int) × ((Int × ((List Int) × (List Str))) × ((List Int) × (List (Int × ((List Int) × (List Str)))))))))))) : ((Int × ((List Int) × ((List (Int × ((List Int) × (List Str)))) × (Int × (Int × Int))))) × (Int × ((Int × Int) × ((Int × Int) × ((Int × ((List Int) × (List Str))) × ((List Int) × (List (Int × ((List Int) × (List Str)))))))))) → Option ((((List (Int × ((List Int) × (List Str)))) × (Int × Int)) × (Int × ((Int × Int) × ((Int × Int) × ((Int × ((List Int) × (List Str))) × ((List Int) × (List (Int × ((List Int) × (List Str))))))))))) := fun ((x42, x40, x25, x26, x27, x41), c, c1, c2, c3, c4, c5) =>
 if (decide (x42 < x41)) then (if ((0 : Int) ≤ x42) then
 if (x42 < (x40.length : Int)) then
 if (sumOk (c4.length + [(elt (.int .i64) x40 x42.toNat)].length) 8) then
 self (((IntKind.wrap .i64 (x42 + (1 : Int))), (x40, (x25, (x26, (x27, x41))))), (c, (c1, (c2, (c3, ((c4 ++ [(elt (.int .i64) x40 x42.toNat)]), c5)))))) else none else none else none) else
 some ((x25, (x26, x27)), (c, (c1, (c2, (c3, (c4, c5))))))
noncomputable def law20_few_l12 : ((Int × ((List Int) × ((List (Int × ((List Int) × (List Str)))) × (Int × (Int × Int))))) × (Int × ((Int × Int) × ((Int × Int) × ((Int × ((List Int) × (List Str))) × ((List Int) × (List (Int × ((List Int) × (List Str)))))))))) → Option ((((List (Int × ((List Int) × (List Str)))) × (Int × Int)) × (Int × ((Int × Int) × ((Int × Int) × ((Int × ((List Int) × (List Str))) × ((List Int) × (List (Int × ((List Int) × (List Str))))))))))) := fixO (B := fun _ => (((List (Int × ((List Int) × (List Str)))) × (Int × Int)) × (Int × ((Int × Int) × ((Int × Int) × ((Int × ((List Int) × (List Str))) × ((List Int) × (List (Int × ((List Int) × (List Str))))))))))) law20_few_l12F
theorem law20_few_l12_eq (q : ((Int × ((List Int) × ((List (Int × ((List Int) × (List Str)))) × (Int × (Int × Int))))) × (Int × ((Int × Int) × ((Int × Int) × ((Int × ((List Int) × (List Str))) × ((List Int) × (List (Int × ((List Int) × (List Str))))))))))) : law20_few_l12 q = law20_few_l12F law20_few_l12 q := fixO_eq (B := fun _ => (((List (Int × ((List Int) × (List Str)))) × (Int × Int)) × (Int × ((Int × Int) × ((Int × Int) × ((Int × ((List Int) × (List Str))) × ((List Int) × (List (Int × ((List Int) × (List Str))))))))))) (F := law20_few_l12F) (fun ((x42, x40, x25, x26, x27, x41), c, c1, c2, c3, c4, c5) => (.ite (.ite (.ite (.ite (.app _) (.const _)) (.const _)) (.const _)) (.const _))) q
noncomputable def law20_few_l19F (self : ((Int × ((List Str) × ((List (Int × ((List Int) × (List Str)))) × (Int × (Int × Int))))) × (Int × ((Int × Int) × ((Int × Int) × ((List Int) × ((List Str) × (List (Int × ((List Int) × (List Str)))))))))) → Option ((((List (Int × ((List Int) × (List Str)))) × (Int × Int)) × ((Int × Int) × ((Int × Int) × (Int × ((List (Int × ((List Int) × (List Str)))) × ((List Int) × (List Str))))))))) : ((Int × ((List Str) × ((List (Int × ((List Int) × (List Str)))) × (Int × (Int × Int))))) × (Int × ((Int × Int) × ((Int × Int) × ((List Int) × ((List Str) × (List (Int × ((List Int) × (List Str)))))))))) → Option ((((List (Int × ((List Int) × (List Str)))) × (Int × Int)) × ((Int × Int) × ((Int × Int) × (Int × ((List (Int × ((List Int) × (List Str)))) × ((List Int) × (List Str)))))))) := fun ((x61, x59, x25, x26, x27, x60), c, c1, c2, c3, c4, c5) =>
 if (decide (x61 < x60)) then (if ((0 : Int) ≤ x61) then
 if (x61 < (x59.length : Int)) then
 if ((0 : Int) ≤ (min ((elt .str x59 x61.toNat).length : Int) (1002 : Int))) then
 if ((min ((elt .str x59 x61.toNat).length : Int) (1002 : Int)) ≤ ((elt .str x59 x61.toNat).length : Int)) then
 if (sumOk (c4.length + [(List.take (min ((elt .str x59 x61.toNat).length : Int) (1002 : Int)).toNat (elt .str x59 x61.toNat))].length) 16) then
 self (((IntKind.wrap .i64 (x61 + (1 : Int))), (x59, (x25, (x26, (x27, x60))))), (c, (c1, (c2, (c3, ((c4 ++ [(List.take (min ((elt .str x59 x61.toNat).length : Int) (1002 : Int)).toNat (elt .str x59 x61.toNat))]), c5)))))) else none else none else none else none else none) else
 some ((x25, (x26, x27)), (c1, (c2, (c, (c5, (c3, c4))))))
noncomputable def law20_few_l19 : ((Int × ((List Str) × ((List (Int × ((List Int) × (List Str)))) × (Int × (Int × Int))))) × (Int × ((Int × Int) × ((Int × Int) × ((List Int) × ((List Str) × (List (Int × ((List Int) × (List Str)))))))))) → Option ((((List (Int × ((List Int) × (List Str)))) × (Int × Int)) × ((Int × Int) × ((Int × Int) × (Int × ((List (Int × ((List Int) × (List Str)))) × ((List Int) × (List Str)))))))) := fixO (B := fun _ => (((List (Int × ((List Int) × (List Str)))) × (Int × Int)) × ((Int × Int) × ((Int × Int) × (Int × ((List (Int × ((List Int) × (List Str)))) × ((List Int) × (List Str)))))))) law20_few_l19F
theorem law20_few_l19_eq (q : ((Int × ((List Str) × ((List (Int × ((List Int) × (List Str)))) × (Int × (Int × Int))))) × (Int × ((Int × Int) × ((Int × Int) × ((List Int) × ((List Str) × (List (Int × ((List Int) × (List Str))))))))))) : law20_few_l19 q = law20_few_l19F law20_few_l19 q := fixO_eq (B := fun _ => (((List (Int × ((List Int) × (List Str)))) × (Int × Int)) × ((Int × Int) × ((Int × Int) × (Int × ((List (Int × ((List Int) × (List Str)))) × ((List Int) × (List Str)))))))) (F := law20_few_l19F) (fun ((x61, x59, x25, x26, x27, x60), c, c1, c2, c3, c4, c5) => (.ite (.ite (.ite (.ite (.ite (.ite (.app _) (.const _)) (.const _)) (.const _)) (.const _)) (.const _)) (.const _))) q
noncomputable def law20_few_l4F (self : ((Int × ((List (Int × ((List Int) × (List Str)))) × Int)) × ((Int × Int) × ((Int × Int) × (List (Int × ((List Int) × (List Str))))))) → Option (((Int × Int) × ((Int × Int) × (List (Int × ((List Int) × (List Str)))))))) : ((Int × ((List (Int × ((List Int) × (List Str)))) × Int)) × ((Int × Int) × ((Int × Int) × (List (Int × ((List Int) × (List Str))))))) → Option (((Int × Int) × ((Int × Int) × (List (Int × ((List Int) × (List Str))))))) := fun ((x27, x25, x26), c, c1, c2) =>
 if (decide (x27 < x26)) then (if ((0 : Int) ≤ x27) then
 if (x27 < (x25.length : Int)) then
 if ((0 : Int) ≤ (min ((elt (.pair (.int .i64) (.pair (.sl (.int .i64)) (.sl .str))) x25 x27.toNat).2.1.length : Int) (9 : Int))) then
 if ((min ((elt (.pair (.int .i64) (.pair (.sl (.int .i64)) (.sl .str))) x25 x27.toNat).2.1.length : Int) (9 : Int)) ≤ ((elt (.pair (.int .i64) (.pair (.sl (.int .i64)) (.sl .str))) x25 x27.toNat).2.1.length : Int)) then
 law20_few_l12 (((0 : Int), ((List.take (min ((elt (.pair (.int .i64) (.pair (.sl (.int .i64)) (.sl .str))) x25 x27.toNat).2.1.length : Int) (9 : Int)).toNat (elt (.pair (.int .i64) (.pair (.sl (.int .i64)) (.sl .str))) x25 x27.toNat).2.1), (x25, (x26, (x27, ((List.take (min ((elt (.pair (.int .i64) (.pair (.sl (.int .i64)) (.sl .str))) x25 x27.toNat).2.1.length : Int) (9 : Int)).toNat (elt (.pair (.int .i64) (.pair (.sl (.int .i64)) (.sl .str))) x25 x27.toNat).2.1).length : Int)))))), ((elt (.pair (.int .i64) (.pair (.sl (.int .i64)) (.sl .str))) x25 x27.toNat).1, (c, (c1, ((elt (.pair (.int .i64) (.pair (.sl (.int .i64)) (.sl .str))) x25 x27.toNat), ([], c2)))))) >>= fun r =>
 if ((0 : Int) ≤ (min (r.2.2.2.2.1.2.2.length : Int) (6 : Int))) then
 if ((min (r.2.2.2.2.1.2.2.length : Int) (6 : Int)) ≤ (r.2.2.2.2.1.2.2.length : Int)) then
 law20_few_l19 (((0 : Int), ((List.take (min (r.2.2.2.2.1.2.2.length : Int) (6 : Int)).toNat r.2.2.2.2.1.2.2), (r.1.1, (r.1.2.1, (r.1.2.2, ((List.take (min (r.2.2.2.2.1.2.2.length : Int) (6 : Int)).toNat r.2.2.2.2.1.2.2).length : Int)))))), (r.2.1, (r.2.2.1, (r.2.2.2.1, (r.2.2.2.2.2.1, ([], r.2.2.2.2.2.2)))))) >>= fun r1 =>
 if (sumOk (r1.2.2.2.2.1.length + [(r1.2.2.2.1, r1.2.2.2.2.2)].length) 56) then
 self (((IntKind.wrap .i64 (r1.1.2.2 + (1 : Int))), (r1.1.1, r1.1.2.1)), (r1.2.1, (r1.2.2.1, (r1.2.2.2.2.1 ++ [(r1.2.2.2.1, r1.2.2.2.2.2)])))) else none else none else none else none else none else none else none) else
 some (c1, (c, c2))
noncomputable def law20_few_l4 : ((Int × ((List (Int × ((List Int) × (List Str)))) × Int)) × ((Int × Int) × ((Int × Int) × (List (Int × ((List Int) × (List Str))))))) → Option (((Int × Int) × ((Int × Int) × (List (Int × ((List Int) × (List Str))))))) := fixO (B := fun _ => ((Int × Int) × ((Int × Int) × (List (Int × ((List Int) × (List Str))))))) law20_few_l4F
theorem law20_few_l4_eq (q : ((Int × ((List (Int × ((List Int) × (List Str)))) × Int)) × ((Int × Int) × ((Int × Int) × (List (Int × ((List Int) × (List Str)))))))) : law20_few_l4 q = law20_few_l4F law20_few_l4 q := fixO_eq (B := fun _ => ((Int × Int) × ((Int × Int) × (List (Int × ((List Int) × (List Str))))))) (F := law20_few_l4F) (fun ((x27, x25, x26), c, c1, c2) => (.ite (.ite (.ite (.ite (.ite (.bind (.const _) fun _ => (.ite (.ite (.bind (.const _) fun _ => (.ite (.app _) (.const _))) (.const _)) (.const _))) (.const _)) (.const _)) (.const _)) (.const _)) (.const _))) q
noncomputable def law20_few : ((Int × (Int × (List (Int × ((List Int) × (List Str)))))) × Int) → Option ((Int × (Int × (List (Int × ((List Int) × (List Str))))))) := fun (p, most) =>
 if ((0 : Int) ≤ (min (p.2.2.length : Int) most)) then
 if ((min (p.2.2.length : Int) most) ≤ (p.2.2.length : Int)) then
 law20_few_l4 (((0 : Int), ((List.take (min (p.2.2.length : Int) most).toNat p.2.2), ((List.take (min (p.2.2.length : Int) most).toNat p.2.2).length : Int))), ((p.1, p.2.1), (((0 : Int), (0 : Int)), []))) >>= fun r =>
 some (r.2.1.1, (r.2.1.2, r.2.2)) else none else none
noncomputable def blob_New : Int → Option ((((List (Str × Str)) × (Int × ((List (Int × Str)) × Int))) × Int)) := fun quota =>
 if (decide (quota < (0 : Int))) then some (([], ((0 : Int), ([], (0 : Int)))), (1 : Int)) else
 if (decide (quota > (1048576 : Int))) then some (([], ((0 : Int), ([], (0 : Int)))), (1 : Int)) else
 some (([], (quota, ([], (0 : Int)))), (0 : Int))
noncomputable def disk_New : Int → Option ((Int × (List Str))) := fun sectors =>
 if (decide (sectors < (4 : Int))) then some ((1 : Int), []) else
 if (decide (sectors > (64 : Int))) then some ((1 : Int), []) else
 lib_Repeat (([0] : Str), (128 : Int)) >>= fun r =>
 lib_RepeatS ([r], sectors) >>= fun r1 =>
 some ((0 : Int), r1)
noncomputable def octet_Wide_l9F (self : ((Int × (Int × Int)) × (List Int)) → Option ((List Int))) : ((Int × (Int × Int)) × (List Int)) → Option ((List Int)) := fun ((x29, n, x28), c) =>
 if (decide (x29 < x28)) then (if ((0 : Int) ≤ (IntKind.wrap .i64 ((8 : Int) * x29))) then
 if ((0 : Int) ≤ x29) then
 if (x29 < (c.length : Int)) then
 if (x29.toNat < c.length) then
 self (((IntKind.wrap .i64 (x29 + (1 : Int))), (n, x28)), (List.set c x29.toNat (IntKind.wrap .u8 (ishr .u64 n (IntKind.wrap .i64 ((8 : Int) * x29)))))) else none else none else none else none) else
 some c
noncomputable def octet_Wide_l9 : ((Int × (Int × Int)) × (List Int)) → Option ((List Int)) := fixO (B := fun _ => (List Int)) octet_Wide_l9F
theorem octet_Wide_l9_eq (q : ((Int × (Int × Int)) × (List Int))) : octet_Wide_l9 q = octet_Wide_l9F octet_Wide_l9 q := fixO_eq (B := fun _ => (List Int)) (F := octet_Wide_l9F) (fun ((x29, n, x28), c) => (.ite (.ite (.ite (.ite (.ite (.app _) (.const _)) (.const _)) (.const _)) (.const _)) (.const _))) q
noncomputable def octet_Wide : (Int × Int) → Option ((Str × Int)) := fun (n, size) =>
 if (decide (size < (0 : Int))) then some ([], (1 : Int)) else
 if (decide (size > (8 : Int))) then some ([], (1 : Int)) else
 if (decide (size < (8 : Int))) then (if ((0 : Int) ≤ (IntKind.wrap .i64 ((8 : Int) * size))) then
 if ((ishr .u64 n (IntKind.wrap .i64 ((8 : Int) * size))) != (0 : Int)) then some ([], (2 : Int)) else
 if (size = size) then
 if ((0 : Int) ≤ size) then
 if (sumOk size.toNat 1) then
 octet_Wide_l9 (((0 : Int), (n, ((List.replicate size.toNat (0 : Int)).length : Int))), (List.replicate size.toNat (0 : Int))) >>= fun r =>
 some ((bytesStr r), (0 : Int)) else none else none else none else none) else
 if (size = size) then
 if ((0 : Int) ≤ size) then
 if (sumOk size.toNat 1) then
 octet_Wide_l9 (((0 : Int), (n, ((List.replicate size.toNat (0 : Int)).length : Int))), (List.replicate size.toNat (0 : Int))) >>= fun r =>
 some ((bytesStr r), (0 : Int)) else none else none else none
noncomputable def ledger_head : (Int × Int) → Option (Str) := fun (gen, used) =>
 octet_Wide ((IntKind.wrap .u64 gen), (6 : Int)) >>= fun w =>
 octet_Wide ((IntKind.wrap .u64 used), (3 : Int)) >>= fun w1 =>
 if ((([108, 101, 100] : Str).length + w.1.length) ≤ 9223372036854775807) then
 if (((([108, 101, 100] : Str) ++ w.1).length + w1.1.length) ≤ 9223372036854775807) then
 lib_Repeat (([0] : Str), (IntKind.wrap .i64 ((128 : Int) - (((([108, 101, 100] : Str) ++ w.1) ++ w1.1).length : Int)))) >>= fun r =>
 if ((((([108, 101, 100] : Str) ++ w.1) ++ w1.1).length + r.length) ≤ 9223372036854775807) then
 some (((([108, 101, 100] : Str) ++ w.1) ++ w1.1) ++ r) else none else none else none
noncomputable def disk_Right_1 : Str → Option (Bool) := fun s =>
 some ((s.length : Int) != (128 : Int))
noncomputable def slices_IndexFunc_string_ako_l3F (self : (Int × ((List Str) × Int)) → Option (Int ⊕ Unit)) : (Int × ((List Str) × Int)) → Option (Int ⊕ Unit) := fun (x8, s, x7) =>
 if (decide (x8 < x7)) then (if ((0 : Int) ≤ x8) then
 if (x8 < (s.length : Int)) then
 disk_Right_1 (elt .str s x8.toNat) >>= fun r =>
 if r then some (.inl x8) else
 self ((IntKind.wrap .i64 (x8 + (1 : Int))), (s, x7)) else none else none) else
 some (.inr ())
noncomputable def slices_IndexFunc_string_ako_l3 : (Int × ((List Str) × Int)) → Option (Int ⊕ Unit) := fixO (B := fun _ => Int ⊕ Unit) slices_IndexFunc_string_ako_l3F
theorem slices_IndexFunc_string_ako_l3_eq (q : (Int × ((List Str) × Int))) : slices_IndexFunc_string_ako_l3 q = slices_IndexFunc_string_ako_l3F slices_IndexFunc_string_ako_l3 q := fixO_eq (B := fun _ => Int ⊕ Unit) (F := slices_IndexFunc_string_ako_l3F) (fun (x8, s, x7) => (.ite (.ite (.ite (.bind (.const _) fun _ => (.ite (.const _) (.app _))) (.const _)) (.const _)) (.const _))) q
noncomputable def slices_IndexFunc_string_ako : (List Str) → Option (Int) := fun s =>
 slices_IndexFunc_string_ako_l3 ((0 : Int), (s, (s.length : Int))) >>= fun r =>
 Sum.elim (fun r1 => some r1) (fun r1 => some (-1 : Int)) r
noncomputable def slices_ContainsFunc_string_ako : (List Str) → Option (Bool) := fun s =>
 slices_IndexFunc_string_ako s >>= fun a =>
 some (decide (a ≥ (0 : Int)))
noncomputable def disk_well_1_roa : ((Int × Str) × Int) → Option ((Bool × Int)) := fun (w, c) =>
 if (decide (w.1 < (0 : Int))) then some (true, c) else
 if (decide (w.1 ≥ c)) then some (true, c) else
 some (((w.2.length : Int) != (128 : Int)), c)
noncomputable def slices_IndexFunc_api_Write_ox0_l3F (self : ((Int × ((List (Int × Str)) × Int)) × Int) → Option ((Int × Int) ⊕ Int)) : ((Int × ((List (Int × Str)) × Int)) × Int) → Option ((Int × Int) ⊕ Int) := fun ((x8, s, x7), c) =>
 if (decide (x8 < x7)) then (if ((0 : Int) ≤ x8) then
 if (x8 < (s.length : Int)) then
 disk_well_1_roa ((elt (.pair (.int .i64) .str) s x8.toNat), c) >>= fun r =>
 if r.1 then some (.inl (x8, r.2)) else
 self (((IntKind.wrap .i64 (x8 + (1 : Int))), (s, x7)), r.2) else none else none) else
 some (.inr c)
noncomputable def slices_IndexFunc_api_Write_ox0_l3 : ((Int × ((List (Int × Str)) × Int)) × Int) → Option ((Int × Int) ⊕ Int) := fixO (B := fun _ => (Int × Int) ⊕ Int) slices_IndexFunc_api_Write_ox0_l3F
theorem slices_IndexFunc_api_Write_ox0_l3_eq (q : ((Int × ((List (Int × Str)) × Int)) × Int)) : slices_IndexFunc_api_Write_ox0_l3 q = slices_IndexFunc_api_Write_ox0_l3F slices_IndexFunc_api_Write_ox0_l3 q := fixO_eq (B := fun _ => (Int × Int) ⊕ Int) (F := slices_IndexFunc_api_Write_ox0_l3F) (fun ((x8, s, x7), c) => (.ite (.ite (.ite (.bind (.const _) fun _ => (.ite (.const _) (.app _))) (.const _)) (.const _)) (.const _))) q
noncomputable def slices_IndexFunc_api_Write_ox0 : ((List (Int × Str)) × Int) → Option ((Int × Int)) := fun (s, c) =>
 slices_IndexFunc_api_Write_ox0_l3 (((0 : Int), (s, (s.length : Int))), c) >>= fun r =>
 Sum.elim (fun r1 => some r1) (fun r1 => some ((-1 : Int), r1)) r
noncomputable def slices_ContainsFunc_api_Write_ox0 : ((List (Int × Str)) × Int) → Option ((Bool × Int)) := fun (s, c) =>
 slices_IndexFunc_api_Write_ox0 (s, c) >>= fun w =>
 some ((decide (w.1 ≥ (0 : Int))), w.2)
noncomputable def disk_well : ((List (Int × Str)) × Int) → Option (Bool) := fun (l, sectors) =>
 slices_ContainsFunc_api_Write_ox0 (l, sectors) >>= fun w =>
 some (!w.1)
noncomputable def disk_Right : ((List Str) × (List (Int × Str))) → Option (Bool) := fun d =>
 if (decide ((d.1.length : Int) ≥ (4 : Int))) then (if (decide ((d.1.length : Int) ≤ (64 : Int))) then (if (decide ((d.2.length : Int) ≤ (200 : Int))) then (slices_ContainsFunc_string_ako d.1 >>= fun a =>
 if (!a) then (disk_well (d.2, (d.1.length : Int)) >>= fun w =>
 some w) else
 some false) else
 some false) else
 some false) else
 some false
noncomputable def ledger_room : (((List Str) × (List (Int × Str))) × Int) → Option ((Int × Str)) := fun (d, half) =>
 if ((0 : Int) ≤ (IntKind.wrap .i64 ((IntKind.wrap .i64 (half * (IntKind.wrap .i64 (Int.tdiv (d.1.length : Int) (2 : Int))))) + (1 : Int)))) then
 if ((IntKind.wrap .i64 ((IntKind.wrap .i64 (half * (IntKind.wrap .i64 (Int.tdiv (d.1.length : Int) (2 : Int))))) + (1 : Int))) ≤ (IntKind.wrap .i64 ((IntKind.wrap .i64 (half + (1 : Int))) * (IntKind.wrap .i64 (Int.tdiv (d.1.length : Int) (2 : Int)))))) then
 if ((IntKind.wrap .i64 ((IntKind.wrap .i64 (half + (1 : Int))) * (IntKind.wrap .i64 (Int.tdiv (d.1.length : Int) (2 : Int))))) ≤ (d.1.length : Int)) then
 lib_Join ((List.drop (IntKind.wrap .i64 ((IntKind.wrap .i64 (half * (IntKind.wrap .i64 (Int.tdiv (d.1.length : Int) (2 : Int))))) + (1 : Int))).toNat (List.take (IntKind.wrap .i64 ((IntKind.wrap .i64 (half + (1 : Int))) * (IntKind.wrap .i64 (Int.tdiv (d.1.length : Int) (2 : Int))))).toNat d.1)), []) >>= fun j =>
 some ((IntKind.wrap .i64 (half * (IntKind.wrap .i64 (Int.tdiv (d.1.length : Int) (2 : Int))))), j) else none else none else none
noncomputable def octet_Whole_l7F (self : (Int × (Str × (Int × Int))) → Option (Int)) : (Int × (Str × (Int × Int))) → Option (Int) := fun (x11, s, n, x10) =>
 if (decide (x11 < x10)) then (if ((0 : Int) ≤ x11) then
 if (x11 < (s.length : Int)) then
 if ((0 : Int) ≤ (IntKind.wrap .i64 ((8 : Int) * x11))) then
 self ((IntKind.wrap .i64 (x11 + (1 : Int))), (s, ((ior .u64 n (ishl .u64 (IntKind.wrap .u64 (bt s x11)) (IntKind.wrap .i64 ((8 : Int) * x11)))), x10))) else none else none else none) else
 some n
noncomputable def octet_Whole_l7 : (Int × (Str × (Int × Int))) → Option (Int) := fixO (B := fun _ => Int) octet_Whole_l7F
theorem octet_Whole_l7_eq (q : (Int × (Str × (Int × Int)))) : octet_Whole_l7 q = octet_Whole_l7F octet_Whole_l7 q := fixO_eq (B := fun _ => Int) (F := octet_Whole_l7F) (fun (x11, s, n, x10) => (.ite (.ite (.ite (.ite (.app _) (.const _)) (.const _)) (.const _)) (.const _))) q
noncomputable def octet_Whole : Str → Option ((Int × Int)) := fun s =>
 if (decide ((s.length : Int) > (8 : Int))) then some ((0 : Int), (2 : Int)) else
 octet_Whole_l7 ((0 : Int), (s, ((0 : Int), (s.length : Int)))) >>= fun r =>
 some (r, (0 : Int))
noncomputable def ledger_tells : (((List Str) × (List (Int × Str))) × Int) → Option ((Int × Int)) := fun (d, half) =>
 ledger_room (d, half) >>= fun r =>
 if ((0 : Int) ≤ r.1) then
 if (r.1 < (d.1.length : Int)) then
 if ((9 : Int) ≤ ((elt .str d.1 r.1.toNat).length : Int)) then
 octet_Whole (List.drop 3 (List.take 9 (elt .str d.1 r.1.toNat))) >>= fun w =>
 if ((12 : Int) ≤ ((elt .str d.1 r.1.toNat).length : Int)) then
 octet_Whole (List.drop 9 (List.take 12 (elt .str d.1 r.1.toNat))) >>= fun w1 =>
 if (decide (w.1 < (1 : Int))) then some ((0 : Int), (0 : Int)) else
 if (decide (w.1 > (1099511627776 : Int))) then some ((0 : Int), (0 : Int)) else
 if (decide (w1.1 > (IntKind.wrap .u64 (r.2.length : Int)))) then some ((0 : Int), (0 : Int)) else
 ledger_head ((IntKind.wrap .i64 w.1), (IntKind.wrap .i64 w1.1)) >>= fun h =>
 if (h != (elt .str d.1 r.1.toNat)) then some ((0 : Int), (0 : Int)) else
 some ((IntKind.wrap .i64 w.1), (IntKind.wrap .i64 w1.1)) else none else none else none else none
noncomputable def ledger_Open_l7F (self : (Int × ((((List Str) × (List (Int × Str))) × (Int × (Int × (Int × (List Str))))) × (((List Str) × (List (Int × Str))) × (((List Str) × (List (Int × Str))) × (Int × (Int × (Int × (List Str)))))))) → Option (((((List Str) × (List (Int × Str))) × (Int × (Int × (Int × (List Str))))) × ((((List Str) × (List (Int × Str))) × (Int × (Int × (Int × (List Str))))) × ((List Str) × (List (Int × Str))))))) : (Int × ((((List Str) × (List (Int × Str))) × (Int × (Int × (Int × (List Str))))) × (((List Str) × (List (Int × Str))) × (((List Str) × (List (Int × Str))) × (Int × (Int × (Int × (List Str)))))))) → Option (((((List Str) × (List (Int × Str))) × (Int × (Int × (Int × (List Str))))) × ((((List Str) × (List (Int × Str))) × (Int × (Int × (Int × (List Str))))) × ((List Str) × (List (Int × Str)))))) := fun (x24, c, c1, c2) =>
 if (decide (x24 < (2 : Int))) then (ledger_tells (c1, x24) >>= fun t =>
 if (decide (t.1 > c.2.2.1)) then (self ((IntKind.wrap .i64 (x24 + (1 : Int))), ((c.1, (x24, (t.1, (t.2, c.2.2.2.2)))), (c1, c2)))) else
 self ((IntKind.wrap .i64 (x24 + (1 : Int))), (c, (c1, c2)))) else
 some (c2, (c, c1))
noncomputable def ledger_Open_l7 : (Int × ((((List Str) × (List (Int × Str))) × (Int × (Int × (Int × (List Str))))) × (((List Str) × (List (Int × Str))) × (((List Str) × (List (Int × Str))) × (Int × (Int × (Int × (List Str)))))))) → Option (((((List Str) × (List (Int × Str))) × (Int × (Int × (Int × (List Str))))) × ((((List Str) × (List (Int × Str))) × (Int × (Int × (Int × (List Str))))) × ((List Str) × (List (Int × Str)))))) := fixO (B := fun _ => ((((List Str) × (List (Int × Str))) × (Int × (Int × (Int × (List Str))))) × ((((List Str) × (List (Int × Str))) × (Int × (Int × (Int × (List Str))))) × ((List Str) × (List (Int × Str)))))) ledger_Open_l7F
theorem ledger_Open_l7_eq (q : (Int × ((((List Str) × (List (Int × Str))) × (Int × (Int × (Int × (List Str))))) × (((List Str) × (List (Int × Str))) × (((List Str) × (List (Int × Str))) × (Int × (Int × (Int × (List Str))))))))) : ledger_Open_l7 q = ledger_Open_l7F ledger_Open_l7 q := fixO_eq (B := fun _ => ((((List Str) × (List (Int × Str))) × (Int × (Int × (Int × (List Str))))) × ((((List Str) × (List (Int × Str))) × (Int × (Int × (Int × (List Str))))) × ((List Str) × (List (Int × Str)))))) (F := ledger_Open_l7F) (fun (x24, c, c1, c2) => (.ite (.bind (.const _) fun _ => (.ite (.app _) (.app _))) (.const _))) q
noncomputable def ledger_entries_l3F (self : (Str × (List Str)) → Option (((List Str) × Bool) ⊕ (List Str))) : (Str × (List Str)) → Option (((List Str) × Bool) ⊕ (List Str)) := fun (s, c) =>
 if (s != []) then (if (decide ((s.length : Int) < (2 : Int))) then some (.inl ([], false)) else
 if ((2 : Int) ≤ (s.length : Int)) then
 octet_Whole (List.take 2 s) >>= fun w =>
 if ((2 : Int) ≤ (s.length : Int)) then
 if ((s.length : Int) ≤ (s.length : Int)) then
 if (decide (w.1 > (4096 : Int))) then some (.inl ([], false)) else
 if (decide (w.1 > (IntKind.wrap .u64 ((List.drop 2 (List.take (s.length : Int).toNat s)).length : Int)))) then some (.inl ([], false)) else
 if ((0 : Int) ≤ w.1) then
 if (w.1 ≤ ((List.drop 2 (List.take (s.length : Int).toNat s)).length : Int)) then
 if (sumOk (c.length + [(List.take w.1.toNat (List.drop 2 (List.take (s.length : Int).toNat s)))].length) 16) then
 if ((0 : Int) ≤ w.1) then
 if (w.1 ≤ ((List.drop 2 (List.take (s.length : Int).toNat s)).length : Int)) then
 if (((List.drop 2 (List.take (s.length : Int).toNat s)).length : Int) ≤ ((List.drop 2 (List.take (s.length : Int).toNat s)).length : Int)) then
 self ((List.drop w.1.toNat (List.take ((List.drop 2 (List.take (s.length : Int).toNat s)).length : Int).toNat (List.drop 2 (List.take (s.length : Int).toNat s)))), (c ++ [(List.take w.1.toNat (List.drop 2 (List.take (s.length : Int).toNat s)))])) else none else none else none else none else none else none else none else none else none) else
 some (.inr c)
noncomputable def ledger_entries_l3 : (Str × (List Str)) → Option (((List Str) × Bool) ⊕ (List Str)) := fixO (B := fun _ => ((List Str) × Bool) ⊕ (List Str)) ledger_entries_l3F
theorem ledger_entries_l3_eq (q : (Str × (List Str))) : ledger_entries_l3 q = ledger_entries_l3F ledger_entries_l3 q := fixO_eq (B := fun _ => ((List Str) × Bool) ⊕ (List Str)) (F := ledger_entries_l3F) (fun (s, c) => (.ite (.ite (.const _) (.ite (.bind (.const _) fun _ => (.ite (.ite (.ite (.const _) (.ite (.const _) (.ite (.ite (.ite (.ite (.ite (.ite (.app _) (.const _)) (.const _)) (.const _)) (.const _)) (.const _)) (.const _)))) (.const _)) (.const _))) (.const _))) (.const _))) q
noncomputable def ledger_entries : Str → Option (((List Str) × Bool)) := fun s =>
 ledger_entries_l3 (s, []) >>= fun r =>
 Sum.elim (fun r1 => some r1) (fun r1 => some (r1, true)) r
noncomputable def ledger_Open : ((List Str) × (List (Int × Str))) → Option (((((List Str) × (List (Int × Str))) × (Int × (Int × (Int × (List Str))))) × Int)) := fun d =>
 disk_Right d >>= fun r =>
 if (!r) then some ((([], []), ((0 : Int), ((0 : Int), ((0 : Int), [])))), (1 : Int)) else
 if (decide ((d.2.length : Int) > (0 : Int))) then some ((([], []), ((0 : Int), ((0 : Int), ((0 : Int), [])))), (1 : Int)) else
 ledger_Open_l7 ((0 : Int), ((d, ((0 : Int), ((0 : Int), ((0 : Int), [])))), (d, (([], []), ((0 : Int), ((0 : Int), ((0 : Int), []))))))) >>= fun r1 =>
 ledger_room (r1.2.2, r1.2.1.2.1) >>= fun r2 =>
 if ((0 : Int) ≤ r1.2.1.2.2.2.1) then
 if (r1.2.1.2.2.2.1 ≤ (r2.2.length : Int)) then
 ledger_entries (List.take r1.2.1.2.2.2.1.toNat r2.2) >>= fun e =>
 if (r1.2.1.2.2.1 == (0 : Int)) then some ((([], []), ((0 : Int), ((0 : Int), ((0 : Int), [])))), (14 : Int)) else
 if (!e.2) then some ((([], []), ((0 : Int), ((0 : Int), ((0 : Int), [])))), (14 : Int)) else
 some ((r1.2.1.1, (r1.2.1.2.1, (r1.2.1.2.2.1, (r1.2.1.2.2.2.1, e.1)))), (0 : Int)) else none else none
noncomputable def ledger_Format : Int → Option (((((List Str) × (List (Int × Str))) × (Int × (Int × (Int × (List Str))))) × Int)) := fun sectors =>
 disk_New sectors >>= fun n =>
 if (n.1 != (0 : Int)) then some ((([], []), ((0 : Int), ((0 : Int), ((0 : Int), [])))), n.1) else
 ledger_head ((1 : Int), (0 : Int)) >>= fun h =>
 if ((0 : Int) < (n.2.length : Int)) then
 if (0 < n.2.length) then
 ledger_Open ((List.set n.2 0 h), []) >>= fun o =>
 some o else none else none
noncomputable def vault_Format : Int → Option ((((((List Str) × (List (Int × Str))) × (Int × (Int × (Int × (List Str))))) × ((List (Int × (Str × (Str × (Int × (Int × (Int × (Int × Int)))))))) × (Int × Int))) × Int)) := fun sectors =>
 ledger_Format sectors >>= fun f =>
 some ((f.1, ([], ((0 : Int), (0 : Int)))), f.2)
noncomputable def control_New : (Int × Int) → Option (((((((List (Str × Str)) × (Int × ((List (Int × Str)) × Int))) × (List (Str × ((List Str) × ((List Str) × (List (Str × Str))))))) × (((List (Str × Str)) × (Int × ((List (Int × Str)) × Int))) × (List (Str × ((List Str) × ((List Str) × (List (Str × Str)))))))) × (((((List Str) × (List (Int × Str))) × (Int × (Int × (Int × (List Str))))) × ((List (Int × (Str × (Str × (Int × (Int × (Int × (Int × Int)))))))) × (Int × Int))) × ((List (Int × (Int × ((List Str) × ((List Str) × (Str × (Bool × (Bool × (Bool × Str))))))))) × (((Bool × ((Int × (Str × (Str × (Int × (Int × (Int × (Int × Int))))))) × ((Int × (Int × (Str × (Str × (Str × (Bool × Bool)))))) × (Int × (Str × (((List Str) × (List Str)) × (Int × Bool))))))) × (Bool × ((Int × (Str × (Str × (Int × (Int × (Int × (Int × Int))))))) × ((Int × (Int × (Str × (Str × (Str × (Bool × Bool)))))) × (Int × (Str × (((List Str) × (List Str)) × (Int × Bool)))))))) × Int)))) × Int)) := fun (quota, sectors) =>
 blob_New quota >>= fun n =>
 if (n.2 != (0 : Int)) then some ((((([], ((0 : Int), ([], (0 : Int)))), []), (([], ((0 : Int), ([], (0 : Int)))), [])), (((([], []), ((0 : Int), ((0 : Int), ((0 : Int), [])))), ([], ((0 : Int), (0 : Int)))), ([], (((false, (((0 : Int), ([], ([], ((0 : Int), ((0 : Int), ((0 : Int), ((0 : Int), (0 : Int)))))))), (((0 : Int), ((0 : Int), ([], ([], ([], (false, false)))))), ((0 : Int), ([], (([], []), ((0 : Int), false))))))), (false, (((0 : Int), ([], ([], ((0 : Int), ((0 : Int), ((0 : Int), ((0 : Int), (0 : Int)))))))), (((0 : Int), ((0 : Int), ([], ([], ([], (false, false)))))), ((0 : Int), ([], (([], []), ((0 : Int), false)))))))), (0 : Int))))), n.2) else
 vault_Format sectors >>= fun f =>
 if (f.2 != (0 : Int)) then some ((((([], ((0 : Int), ([], (0 : Int)))), []), (([], ((0 : Int), ([], (0 : Int)))), [])), (((([], []), ((0 : Int), ((0 : Int), ((0 : Int), [])))), ([], ((0 : Int), (0 : Int)))), ([], (((false, (((0 : Int), ([], ([], ((0 : Int), ((0 : Int), ((0 : Int), ((0 : Int), (0 : Int)))))))), (((0 : Int), ((0 : Int), ([], ([], ([], (false, false)))))), ((0 : Int), ([], (([], []), ((0 : Int), false))))))), (false, (((0 : Int), ([], ([], ((0 : Int), ((0 : Int), ((0 : Int), ((0 : Int), (0 : Int)))))))), (((0 : Int), ((0 : Int), ([], ([], ([], (false, false)))))), ((0 : Int), ([], (([], []), ((0 : Int), false)))))))), (0 : Int))))), f.2) else
 some ((((n.1, []), (n.1, [])), (f.1, ([], (((false, (((0 : Int), ([], ([], ((0 : Int), ((0 : Int), ((0 : Int), ((0 : Int), (0 : Int)))))))), (((0 : Int), ((0 : Int), ([], ([], ([], (false, false)))))), ((0 : Int), ([], (([], []), ((0 : Int), false))))))), (false, (((0 : Int), ([], ([], ((0 : Int), ((0 : Int), ((0 : Int), ((0 : Int), (0 : Int)))))))), (((0 : Int), ((0 : Int), ([], ([], ([], (false, false)))))), ((0 : Int), ([], (([], []), ((0 : Int), false)))))))), (0 : Int))))), (0 : Int))
noncomputable def script_begins : (Int × (Int × (List (Int × ((List Int) × (List Str)))))) → Option (Bool) := fun p =>
 control_New (p.1, p.2.1) >>= fun n =>
 if (decide (p.1 ≥ (0 : Int))) then (if (decide (p.1 ≤ (1048576 : Int))) then (if (decide (p.2.1 ≥ (0 : Int))) then (if (decide (p.2.1 ≤ (1048576 : Int))) then some (n.2 == (0 : Int)) else
 some false) else
 some false) else
 some false) else
 some false
noncomputable def script_right_1 : Int → Option (Bool) := fun n =>
 if (decide (n < (0 : Int))) then some true else
 some (decide (n > (1099511627776 : Int)))
noncomputable def slices_IndexFunc_int_dl5_l3F (self : (Int × ((List Int) × Int)) → Option (Int ⊕ Unit)) : (Int × ((List Int) × Int)) → Option (Int ⊕ Unit) := fun (x8, s, x7) =>
 if (decide (x8 < x7)) then (if ((0 : Int) ≤ x8) then
 if (x8 < (s.length : Int)) then
 script_right_1 (elt (.int .i64) s x8.toNat) >>= fun r =>
 if r then some (.inl x8) else
 self ((IntKind.wrap .i64 (x8 + (1 : Int))), (s, x7)) else none else none) else
 some (.inr ())
noncomputable def slices_IndexFunc_int_dl5_l3 : (Int × ((List Int) × Int)) → Option (Int ⊕ Unit) := fixO (B := fun _ => Int ⊕ Unit) slices_IndexFunc_int_dl5_l3F
theorem slices_IndexFunc_int_dl5_l3_eq (q : (Int × ((List Int) × Int))) : slices_IndexFunc_int_dl5_l3 q = slices_IndexFunc_int_dl5_l3F slices_IndexFunc_int_dl5_l3 q := fixO_eq (B := fun _ => Int ⊕ Unit) (F := slices_IndexFunc_int_dl5_l3F) (fun (x8, s, x7) => (.ite (.ite (.ite (.bind (.const _) fun _ => (.ite (.const _) (.app _))) (.const _)) (.const _)) (.const _))) q
noncomputable def slices_IndexFunc_int_dl5 : (List Int) → Option (Int) := fun s =>
 slices_IndexFunc_int_dl5_l3 ((0 : Int), (s, (s.length : Int))) >>= fun r =>
 Sum.elim (fun r1 => some r1) (fun r1 => some (-1 : Int)) r
noncomputable def slices_ContainsFunc_int_dl5 : (List Int) → Option (Bool) := fun s =>
 slices_IndexFunc_int_dl5 s >>= fun i =>
 some (decide (i ≥ (0 : Int)))
noncomputable def script_right_2 : Str → Option (Bool) := fun s =>
 some (decide ((s.length : Int) > (1000 : Int)))
noncomputable def slices_IndexFunc_string_2rt_l3F (self : (Int × ((List Str) × Int)) → Option (Int ⊕ Unit)) : (Int × ((List Str) × Int)) → Option (Int ⊕ Unit) := fun (x8, s, x7) =>
 if (decide (x8 < x7)) then (if ((0 : Int) ≤ x8) then
 if (x8 < (s.length : Int)) then
 script_right_2 (elt .str s x8.toNat) >>= fun r =>
 if r then some (.inl x8) else
 self ((IntKind.wrap .i64 (x8 + (1 : Int))), (s, x7)) else none else none) else
 some (.inr ())
noncomputable def slices_IndexFunc_string_2rt_l3 : (Int × ((List Str) × Int)) → Option (Int ⊕ Unit) := fixO (B := fun _ => Int ⊕ Unit) slices_IndexFunc_string_2rt_l3F
theorem slices_IndexFunc_string_2rt_l3_eq (q : (Int × ((List Str) × Int))) : slices_IndexFunc_string_2rt_l3 q = slices_IndexFunc_string_2rt_l3F slices_IndexFunc_string_2rt_l3 q := fixO_eq (B := fun _ => Int ⊕ Unit) (F := slices_IndexFunc_string_2rt_l3F) (fun (x8, s, x7) => (.ite (.ite (.ite (.bind (.const _) fun _ => (.ite (.const _) (.app _))) (.const _)) (.const _)) (.const _))) q
noncomputable def slices_IndexFunc_string_2rt : (List Str) → Option (Int) := fun s =>
 slices_IndexFunc_string_2rt_l3 ((0 : Int), (s, (s.length : Int))) >>= fun r =>
 Sum.elim (fun r1 => some r1) (fun r1 => some (-1 : Int)) r
noncomputable def slices_ContainsFunc_string_2rt : (List Str) → Option (Bool) := fun s =>
 slices_IndexFunc_string_2rt s >>= fun s1 =>
 some (decide (s1 ≥ (0 : Int)))
noncomputable def script_right : (Int × ((List Int) × (List Str))) → Option (Bool) := fun d =>
 lib_shapes () >>= fun s =>
 if (mhas (.int .i64) (.pair .str (.pair (.int .i64) (.int .i64))) d.1 s) then (if ((d.2.1.length : Int) == (mget (.int .i64) (.pair .str (.pair (.int .i64) (.int .i64))) d.1 s).2.1) then (if ((d.2.2.length : Int) == (mget (.int .i64) (.pair .str (.pair (.int .i64) (.int .i64))) d.1 s).2.2) then (slices_ContainsFunc_int_dl5 d.2.1 >>= fun i =>
 if (!i) then (slices_ContainsFunc_string_2rt d.2.2 >>= fun s1 =>
 some (!s1)) else
 some false) else
 some false) else
 some false) else
 some false
noncomputable def script_Right_1 : (Int × ((List Int) × (List Str))) → Option (Bool) := fun d =>
 script_right d >>= fun r =>
 some (!r)
noncomputable def slices_IndexFunc_api_Deed_jfo_l3F (self : (Int × ((List (Int × ((List Int) × (List Str)))) × Int)) → Option (Int ⊕ Unit)) : (Int × ((List (Int × ((List Int) × (List Str)))) × Int)) → Option (Int ⊕ Unit) := fun (x8, s, x7) =>
 if (decide (x8 < x7)) then (if ((0 : Int) ≤ x8) then
 if (x8 < (s.length : Int)) then
 script_Right_1 (elt (.pair (.int .i64) (.pair (.sl (.int .i64)) (.sl .str))) s x8.toNat) >>= fun r =>
 if r then some (.inl x8) else
 self ((IntKind.wrap .i64 (x8 + (1 : Int))), (s, x7)) else none else none) else
 some (.inr ())
noncomputable def slices_IndexFunc_api_Deed_jfo_l3 : (Int × ((List (Int × ((List Int) × (List Str)))) × Int)) → Option (Int ⊕ Unit) := fixO (B := fun _ => Int ⊕ Unit) slices_IndexFunc_api_Deed_jfo_l3F
theorem slices_IndexFunc_api_Deed_jfo_l3_eq (q : (Int × ((List (Int × ((List Int) × (List Str)))) × Int))) : slices_IndexFunc_api_Deed_jfo_l3 q = slices_IndexFunc_api_Deed_jfo_l3F slices_IndexFunc_api_Deed_jfo_l3 q := fixO_eq (B := fun _ => Int ⊕ Unit) (F := slices_IndexFunc_api_Deed_jfo_l3F) (fun (x8, s, x7) => (.ite (.ite (.ite (.bind (.const _) fun _ => (.ite (.const _) (.app _))) (.const _)) (.const _)) (.const _))) q
noncomputable def slices_IndexFunc_api_Deed_jfo : (List (Int × ((List Int) × (List Str)))) → Option (Int) := fun s =>
 slices_IndexFunc_api_Deed_jfo_l3 ((0 : Int), (s, (s.length : Int))) >>= fun r =>
 Sum.elim (fun r1 => some r1) (fun r1 => some (-1 : Int)) r
noncomputable def slices_ContainsFunc_api_Deed_jfo : (List (Int × ((List Int) × (List Str)))) → Option (Bool) := fun s =>
 slices_IndexFunc_api_Deed_jfo s >>= fun j =>
 some (decide (j ≥ (0 : Int)))
noncomputable def script_Right : (Int × (Int × (List (Int × ((List Int) × (List Str)))))) → Option (Bool) := fun p =>
 script_begins p >>= fun b =>
 if b then (if (decide ((p.2.2.length : Int) ≤ (200 : Int))) then (slices_ContainsFunc_api_Deed_jfo p.2.2 >>= fun j =>
 some (!j)) else
 some false) else
 some false
noncomputable def script_digitsF (self : Int → Option (Str)) : Int → Option (Str) := fun n =>
 if (decide (n < (10 : Int))) then some (bytesStr [(IntKind.wrap .u8 (IntKind.wrap .i64 ((48 : Int) + (Int.tmod n (10 : Int)))))]) else
 self (IntKind.wrap .i64 (Int.tdiv n (10 : Int))) >>= fun d =>
 if ((d.length + (bytesStr [(IntKind.wrap .u8 (IntKind.wrap .i64 ((48 : Int) + (Int.tmod n (10 : Int)))))]).length) ≤ 9223372036854775807) then
 some (d ++ (bytesStr [(IntKind.wrap .u8 (IntKind.wrap .i64 ((48 : Int) + (Int.tmod n (10 : Int)))))])) else none
noncomputable def script_digits : Int → Option (Str) := fixO (B := fun _ => Str) script_digitsF
theorem script_digits_eq (q : Int) : script_digits q = script_digitsF script_digits q := fixO_eq (B := fun _ => Str) (F := script_digitsF) (fun n => (.ite (.const _) (.bind (.app _) fun _ => (.const _)))) q
noncomputable def script_line_l3F (self : (Int × (Str × ((List Int) × ((List Str) × Int)))) → Option ((Str × (List Str)))) : (Int × (Str × ((List Int) × ((List Str) × Int)))) → Option ((Str × (List Str))) := fun (x13, word, x11, texts, x12) =>
 if (decide (x13 < x12)) then (if ((0 : Int) ≤ x13) then
 if (x13 < (x11.length : Int)) then
 script_digits (elt (.int .i64) x11 x13.toNat) >>= fun d =>
 if ((([32] : Str).length + d.length) ≤ 9223372036854775807) then
 if ((word.length + (([32] : Str) ++ d).length) ≤ 9223372036854775807) then
 self ((IntKind.wrap .i64 (x13 + (1 : Int))), ((word ++ (([32] : Str) ++ d)), (x11, (texts, x12)))) else none else none else none else none) else
 some (word, texts)
noncomputable def script_line_l3 : (Int × (Str × ((List Int) × ((List Str) × Int)))) → Option ((Str × (List Str))) := fixO (B := fun _ => (Str × (List Str))) script_line_l3F
theorem script_line_l3_eq (q : (Int × (Str × ((List Int) × ((List Str) × Int))))) : script_line_l3 q = script_line_l3F script_line_l3 q := fixO_eq (B := fun _ => (Str × (List Str))) (F := script_line_l3F) (fun (x13, word, x11, texts, x12) => (.ite (.ite (.ite (.bind (.const _) fun _ => (.ite (.ite (.app _) (.const _)) (.const _))) (.const _)) (.const _)) (.const _))) q
noncomputable def script_line_l10F (self : (Int × (Str × ((List Str) × Int))) → Option (Str)) : (Int × (Str × ((List Str) × Int))) → Option (Str) := fun (x25, word, x23, x24) =>
 if (decide (x25 < x24)) then (if ((0 : Int) ≤ x25) then
 if (x25 < (x23.length : Int)) then
 lib_Hex (elt .str x23 x25.toNat) >>= fun h =>
 if ((([32, 120] : Str).length + h.length) ≤ 9223372036854775807) then
 if ((word.length + (([32, 120] : Str) ++ h).length) ≤ 9223372036854775807) then
 self ((IntKind.wrap .i64 (x25 + (1 : Int))), ((word ++ (([32, 120] : Str) ++ h)), (x23, x24))) else none else none else none else none) else
 some word
noncomputable def script_line_l10 : (Int × (Str × ((List Str) × Int))) → Option (Str) := fixO (B := fun _ => Str) script_line_l10F
theorem script_line_l10_eq (q : (Int × (Str × ((List Str) × Int)))) : script_line_l10 q = script_line_l10F script_line_l10 q := fixO_eq (B := fun _ => Str) (F := script_line_l10F) (fun (x25, word, x23, x24) => (.ite (.ite (.ite (.bind (.const _) fun _ => (.ite (.ite (.app _) (.const _)) (.const _))) (.const _)) (.const _)) (.const _))) q
noncomputable def script_line : (Str × ((List Int) × (List Str))) → Option (Str) := fun (word, nums, texts) =>
 script_line_l3 ((0 : Int), (word, (nums, (texts, (nums.length : Int))))) >>= fun r =>
 script_line_l10 ((0 : Int), (r.1, (r.2, (r.2.length : Int)))) >>= fun r1 =>
 if ((r1.length + ([10] : Str).length) ≤ 9223372036854775807) then
 some (r1 ++ ([10] : Str)) else none
noncomputable def script_Print_l7F (self : (Int × (Str × ((List (Int × ((List Int) × (List Str)))) × Int))) → Option (Str)) : (Int × (Str × ((List (Int × ((List Int) × (List Str)))) × Int))) → Option (Str) := fun (x19, out, x17, x18) =>
 if (decide (x19 < x18)) then (if ((0 : Int) ≤ x19) then
 if (x19 < (x17.length : Int)) then
 lib_shapes () >>= fun s =>
 script_line ((mget (.int .i64) (.pair .str (.pair (.int .i64) (.int .i64))) (elt (.pair (.int .i64) (.pair (.sl (.int .i64)) (.sl .str))) x17 x19.toNat).1 s).1, (elt (.pair (.int .i64) (.pair (.sl (.int .i64)) (.sl .str))) x17 x19.toNat).2) >>= fun l =>
 if ((out.length + l.length) ≤ 9223372036854775807) then
 self ((IntKind.wrap .i64 (x19 + (1 : Int))), ((out ++ l), (x17, x18))) else none else none else none) else
 some out
noncomputable def script_Print_l7 : (Int × (Str × ((List (Int × ((List Int) × (List Str)))) × Int))) → Option (Str) := fixO (B := fun _ => Str) script_Print_l7F
theorem script_Print_l7_eq (q : (Int × (Str × ((List (Int × ((List Int) × (List Str)))) × Int)))) : script_Print_l7 q = script_Print_l7F script_Print_l7 q := fixO_eq (B := fun _ => Str) (F := script_Print_l7F) (fun (x19, out, x17, x18) => (.ite (.ite (.ite (.bind (.const _) fun _ => (.bind (.const _) fun _ => (.ite (.app _) (.const _)))) (.const _)) (.const _)) (.const _))) q
noncomputable def script_Print : (Int × (Int × (List (Int × ((List Int) × (List Str)))))) → Option ((Str × Int)) := fun p =>
 script_Right p >>= fun r =>
 if (!r) then some ([], (1 : Int)) else
 script_line (([119, 111, 114, 108, 100] : Str), ([p.1, p.2.1], [])) >>= fun l =>
 script_Print_l7 ((0 : Int), (l, (p.2.2, (p.2.2.length : Int)))) >>= fun r1 =>
 some (r1, (0 : Int))
noncomputable def ref20_nums : Int → Option (Int) := fun kind =>
 if ((0 : Int) ≤ kind) then
 if (kind < ((List.set (List.set (List.set (List.set (List.set (List.set (List.set (List.set (List.set (List.set (List.set (List.set (List.set (List.replicate 13 (0 : Int)) 0 (0 : Int)) 1 (1 : Int)) 2 (1 : Int)) 3 (1 : Int)) 4 (1 : Int)) 5 (3 : Int)) 6 (1 : Int)) 7 (1 : Int)) 8 (1 : Int)) 9 (2 : Int)) 10 (1 : Int)) 11 (1 : Int)) 12 (7 : Int)).length : Int)) then
 if (kind.toNat < (List.set (List.set (List.set (List.set (List.set (List.set (List.set (List.set (List.set (List.set (List.set (List.set (List.set (List.replicate 13 (0 : Int)) 0 (0 : Int)) 1 (1 : Int)) 2 (1 : Int)) 3 (1 : Int)) 4 (1 : Int)) 5 (3 : Int)) 6 (1 : Int)) 7 (1 : Int)) 8 (1 : Int)) 9 (2 : Int)) 10 (1 : Int)) 11 (1 : Int)) 12 (7 : Int)).length) then
 some (elt (.int .i64) (List.set (List.set (List.set (List.set (List.set (List.set (List.set (List.set (List.set (List.set (List.set (List.set (List.set (List.replicate 13 (0 : Int)) 0 (0 : Int)) 1 (1 : Int)) 2 (1 : Int)) 3 (1 : Int)) 4 (1 : Int)) 5 (3 : Int)) 6 (1 : Int)) 7 (1 : Int)) 8 (1 : Int)) 9 (2 : Int)) 10 (1 : Int)) 11 (1 : Int)) 12 (7 : Int)) kind.toNat) else none else none else none
noncomputable def ref20_texts : Int → Option (Int) := fun kind =>
 if ((0 : Int) ≤ kind) then
 if (kind < ((List.set (List.set (List.set (List.set (List.set (List.set (List.set (List.set (List.set (List.set (List.set (List.set (List.set (List.replicate 13 (0 : Int)) 0 (0 : Int)) 1 (2 : Int)) 2 (2 : Int)) 3 (3 : Int)) 4 (2 : Int)) 5 (4 : Int)) 6 (0 : Int)) 7 (0 : Int)) 8 (0 : Int)) 9 (0 : Int)) 10 (0 : Int)) 11 (0 : Int)) 12 (3 : Int)).length : Int)) then
 if (kind.toNat < (List.set (List.set (List.set (List.set (List.set (List.set (List.set (List.set (List.set (List.set (List.set (List.set (List.set (List.replicate 13 (0 : Int)) 0 (0 : Int)) 1 (2 : Int)) 2 (2 : Int)) 3 (3 : Int)) 4 (2 : Int)) 5 (4 : Int)) 6 (0 : Int)) 7 (0 : Int)) 8 (0 : Int)) 9 (0 : Int)) 10 (0 : Int)) 11 (0 : Int)) 12 (3 : Int)).length) then
 some (elt (.int .i64) (List.set (List.set (List.set (List.set (List.set (List.set (List.set (List.set (List.set (List.set (List.set (List.set (List.set (List.replicate 13 (0 : Int)) 0 (0 : Int)) 1 (2 : Int)) 2 (2 : Int)) 3 (3 : Int)) 4 (2 : Int)) 5 (4 : Int)) 6 (0 : Int)) 7 (0 : Int)) 8 (0 : Int)) 9 (0 : Int)) 10 (0 : Int)) 11 (0 : Int)) 12 (3 : Int)) kind.toNat) else none else none else none
noncomputable def ref20_IsDeed_l6F (self : ((Int × ((List Int) × Int)) × (Int × ((List Int) × (List Str)))) → Option (Bool ⊕ (Int × ((List Int) × (List Str))))) : ((Int × ((List Int) × Int)) × (Int × ((List Int) × (List Str)))) → Option (Bool ⊕ (Int × ((List Int) × (List Str)))) := fun ((x36, x34, x35), c) =>
 if (decide (x36 < x35)) then (if ((0 : Int) ≤ x36) then
 if (x36 < (x34.length : Int)) then
 if (decide ((elt (.int .i64) x34 x36.toNat) < (0 : Int))) then some (.inl false) else
 if (decide ((elt (.int .i64) x34 x36.toNat) > (1099511627776 : Int))) then some (.inl false) else
 self (((IntKind.wrap .i64 (x36 + (1 : Int))), (x34, x35)), c) else none else none) else
 some (.inr c)
noncomputable def ref20_IsDeed_l6 : ((Int × ((List Int) × Int)) × (Int × ((List Int) × (List Str)))) → Option (Bool ⊕ (Int × ((List Int) × (List Str)))) := fixO (B := fun _ => Bool ⊕ (Int × ((List Int) × (List Str)))) ref20_IsDeed_l6F
theorem ref20_IsDeed_l6_eq (q : ((Int × ((List Int) × Int)) × (Int × ((List Int) × (List Str))))) : ref20_IsDeed_l6 q = ref20_IsDeed_l6F ref20_IsDeed_l6 q := fixO_eq (B := fun _ => Bool ⊕ (Int × ((List Int) × (List Str)))) (F := ref20_IsDeed_l6F) (fun ((x36, x34, x35), c) => (.ite (.ite (.ite (.ite (.const _) (.ite (.const _) (.app _))) (.const _)) (.const _)) (.const _))) q
noncomputable def ref20_IsDeed_l15F (self : (Int × ((List Str) × Int)) → Option (Bool ⊕ Unit)) : (Int × ((List Str) × Int)) → Option (Bool ⊕ Unit) := fun (x50, x48, x49) =>
 if (decide (x50 < x49)) then (if ((0 : Int) ≤ x50) then
 if (x50 < (x48.length : Int)) then
 if (decide (((elt .str x48 x50.toNat).length : Int) > (1000 : Int))) then some (.inl false) else
 self ((IntKind.wrap .i64 (x50 + (1 : Int))), (x48, x49)) else none else none) else
 some (.inr ())
noncomputable def ref20_IsDeed_l15 : (Int × ((List Str) × Int)) → Option (Bool ⊕ Unit) := fixO (B := fun _ => Bool ⊕ Unit) ref20_IsDeed_l15F
theorem ref20_IsDeed_l15_eq (q : (Int × ((List Str) × Int))) : ref20_IsDeed_l15 q = ref20_IsDeed_l15F ref20_IsDeed_l15 q := fixO_eq (B := fun _ => Bool ⊕ Unit) (F := ref20_IsDeed_l15F) (fun (x50, x48, x49) => (.ite (.ite (.ite (.ite (.const _) (.app _)) (.const _)) (.const _)) (.const _))) q
noncomputable def ref20_IsDeed : (Int × ((List Int) × (List Str))) → Option (Bool) := fun d =>
 if (decide (d.1 < (1 : Int))) then some false else
 if (decide (d.1 > (12 : Int))) then some false else
 ref20_nums d.1 >>= fun n =>
 if ((d.2.1.length : Int) != n) then some false else
 ref20_texts d.1 >>= fun t =>
 if ((d.2.2.length : Int) != t) then some false else
 ref20_IsDeed_l6 (((0 : Int), (d.2.1, (d.2.1.length : Int))), d) >>= fun r =>
 Sum.elim (fun r1 => some r1) (fun r1 => ref20_IsDeed_l15 ((0 : Int), (r1.2.2, (r1.2.2.length : Int))) >>= fun r2 =>
 Sum.elim (fun r3 => some r3) (fun r3 => some true) r2) r
noncomputable def ref20_Begins : (Int × (Int × (List (Int × ((List Int) × (List Str)))))) → Option (Bool) := fun p =>
 if (decide (p.1 ≥ (0 : Int))) then (if (decide (p.1 ≤ (1048576 : Int))) then (if (decide (p.2.1 ≥ (4 : Int))) then some (decide (p.2.1 ≤ (64 : Int))) else
 some false) else
 some false) else
 some false
noncomputable def script_numbers_l12F (self : ((Int × (Str × (Int × ((List Str) × (Int × (Int × Int)))))) × (List Int)) → Option ((((List Str) × (Int × (Int × Int))) × (List Int)))) : ((Int × (Str × (Int × ((List Str) × (Int × (Int × Int)))))) × (List Int)) → Option ((((List Str) × (Int × (Int × Int))) × (List Int))) := fun ((x17, s, n, x8, x9, x10, x16), c) =>
 if (decide (x17 < x16)) then (if ((0 : Int) ≤ x17) then
 if (x17 < (s.length : Int)) then
 self (((IntKind.wrap .i64 (x17 + (1 : Int))), (s, ((IntKind.wrap .i64 ((IntKind.wrap .i64 ((10 : Int) * n)) + (max (IntKind.wrap .i64 ((IntKind.wrap .i64 (bt s x17)) - (48 : Int))) (0 : Int)))), (x8, (x9, (x10, x16)))))), c) else none else none) else
 some ((x8, (x9, (x10, n))), c)
noncomputable def script_numbers_l12 : ((Int × (Str × (Int × ((List Str) × (Int × (Int × Int)))))) × (List Int)) → Option ((((List Str) × (Int × (Int × Int))) × (List Int))) := fixO (B := fun _ => (((List Str) × (Int × (Int × Int))) × (List Int))) script_numbers_l12F
theorem script_numbers_l12_eq (q : ((Int × (Str × (Int × ((List Str) × (Int × (Int × Int)))))) × (List Int))) : script_numbers_l12 q = script_numbers_l12F script_numbers_l12 q := fixO_eq (B := fun _ => (((List Str) × (Int × (Int × Int))) × (List Int))) (F := script_numbers_l12F) (fun ((x17, s, n, x8, x9, x10, x16), c) => (.ite (.ite (.ite (.app _) (.const _)) (.const _)) (.const _))) q
noncomputable def script_numbers_l4F (self : ((Int × ((List Str) × Int)) × (List Int)) → Option ((List Int))) : ((Int × ((List Str) × Int)) × (List Int)) → Option ((List Int)) := fun ((x10, x8, x9), c) =>
 if (decide (x10 < x9)) then (if ((0 : Int) ≤ x10) then
 if (x10 < (x8.length : Int)) then
 script_numbers_l12 (((0 : Int), ((elt .str x8 x10.toNat), ((0 : Int), (x8, (x9, (x10, (min ((elt .str x8 x10.toNat).length : Int) (14 : Int)))))))), c) >>= fun r =>
 if (sumOk (r.2.length + [r.1.2.2.2].length) 8) then
 self (((IntKind.wrap .i64 (r.1.2.2.1 + (1 : Int))), (r.1.1, r.1.2.1)), (r.2 ++ [r.1.2.2.2])) else none else none else none) else
 some c
noncomputable def script_numbers_l4 : ((Int × ((List Str) × Int)) × (List Int)) → Option ((List Int)) := fixO (B := fun _ => (List Int)) script_numbers_l4F
theorem script_numbers_l4_eq (q : ((Int × ((List Str) × Int)) × (List Int))) : script_numbers_l4 q = script_numbers_l4F script_numbers_l4 q := fixO_eq (B := fun _ => (List Int)) (F := script_numbers_l4F) (fun ((x10, x8, x9), c) => (.ite (.ite (.ite (.bind (.const _) fun _ => (.ite (.app _) (.const _))) (.const _)) (.const _)) (.const _))) q
noncomputable def script_numbers : (List Str) → Option ((List Int)) := fun l =>
 script_numbers_l4 (((0 : Int), (l, (l.length : Int))), []) >>= fun r =>
 some r
noncomputable def script_begin : Str → Option (((Int × Int) × Bool)) := fun row =>
 lib_Split (row, ([32] : Str)) >>= fun s =>
 if ((s.length : Int) != (3 : Int)) then some (((0 : Int), (0 : Int)), false) else
 if ((0 : Int) < (s.length : Int)) then
 if ((elt .str s 0) != ([119, 111, 114, 108, 100] : Str)) then some (((0 : Int), (0 : Int)), false) else
 if ((1 : Int) ≤ (s.length : Int)) then
 if ((s.length : Int) ≤ (s.length : Int)) then
 script_numbers (List.drop 1 (List.take (s.length : Int).toNat s)) >>= fun n =>
 if ((0 : Int) < (n.length : Int)) then
 if ((1 : Int) < (n.length : Int)) then
 script_begins ((elt (.int .i64) n 0), ((elt (.int .i64) n 1), [])) >>= fun b =>
 if b then (if ((0 : Int) < (s.length : Int)) then
 script_line ((elt .str s 0), (n, [])) >>= fun l =>
 if ((row.length + ([10] : Str).length) ≤ 9223372036854775807) then
 some (((elt (.int .i64) n 0), (elt (.int .i64) n 1)), (l == (row ++ ([10] : Str)))) else none else none) else
 some (((elt (.int .i64) n 0), (elt (.int .i64) n 1)), false) else none else none else none else none else none
noncomputable def script_texts_l4F (self : ((Int × ((List Str) × Int)) × (List Str)) → Option ((List Str))) : ((Int × ((List Str) × Int)) × (List Str)) → Option ((List Str)) := fun ((x12, x10, x11), c) =>
 if (decide (x12 < x11)) then (if ((0 : Int) ≤ x12) then
 if (x12 < (x10.length : Int)) then
 lib_CutPrefix ((elt .str x10 x12.toNat), ([120] : Str)) >>= fun c1 =>
 octet_Bytes c1.1 >>= fun b =>
 if (sumOk (c.length + [b.1].length) 16) then
 self (((IntKind.wrap .i64 (x12 + (1 : Int))), (x10, x11)), (c ++ [b.1])) else none else none else none) else
 some c
noncomputable def script_texts_l4 : ((Int × ((List Str) × Int)) × (List Str)) → Option ((List Str)) := fixO (B := fun _ => (List Str)) script_texts_l4F
theorem script_texts_l4_eq (q : ((Int × ((List Str) × Int)) × (List Str))) : script_texts_l4 q = script_texts_l4F script_texts_l4 q := fixO_eq (B := fun _ => (List Str)) (F := script_texts_l4F) (fun ((x12, x10, x11), c) => (.ite (.ite (.ite (.bind (.const _) fun _ => (.bind (.const _) fun _ => (.ite (.app _) (.const _)))) (.const _)) (.const _)) (.const _))) q
noncomputable def script_texts : (List Str) → Option ((List Str)) := fun l =>
 script_texts_l4 (((0 : Int), (l, (l.length : Int))), []) >>= fun r =>
 some r
noncomputable def script_deed_l4F (self : ((Str × (List Str)) × ((Int × ((List Int) × (List Str))) × (List ((Bool × Int) × (Str × (Int × Int)))))) → Option ((Int × ((List Int) × (List Str))) ⊕ (Bool × (Int × ((List Int) × (List Str)))))) : ((Str × (List Str)) × ((Int × ((List Int) × (List Str))) × (List ((Bool × Int) × (Str × (Int × Int)))))) → Option ((Int × ((List Int) × (List Str))) ⊕ (Bool × (Int × ((List Int) × (List Str))))) := fun ((row, l), c, c1) =>
 if (List.isEmpty (List.tail c1)) then some (.inl c) else
 agree (List.tail c1).length fun j =>
 if ((0 : Int) < (l.length : Int)) then
 if ((itGet (.int .i64) (.pair .str (.pair (.int .i64) (.int .i64))) c1 j).2.1 != (elt .str l 0)) then (self ((row, l), (c, (itPut (.int .i64) (.pair .str (.pair (.int .i64) (.int .i64))) c1 j)))) else
 if ((l.length : Int) != (IntKind.wrap .i64 ((IntKind.wrap .i64 ((1 : Int) + (itGet (.int .i64) (.pair .str (.pair (.int .i64) (.int .i64))) c1 j).2.2.1)) + (itGet (.int .i64) (.pair .str (.pair (.int .i64) (.int .i64))) c1 j).2.2.2))) then (self ((row, l), (c, (itPut (.int .i64) (.pair .str (.pair (.int .i64) (.int .i64))) c1 j)))) else
 if ((1 : Int) ≤ (IntKind.wrap .i64 ((1 : Int) + (itGet (.int .i64) (.pair .str (.pair (.int .i64) (.int .i64))) c1 j).2.2.1))) then
 if ((IntKind.wrap .i64 ((1 : Int) + (itGet (.int .i64) (.pair .str (.pair (.int .i64) (.int .i64))) c1 j).2.2.1)) ≤ (l.length : Int)) then
 script_numbers (List.drop 1 (List.take (IntKind.wrap .i64 ((1 : Int) + (itGet (.int .i64) (.pair .str (.pair (.int .i64) (.int .i64))) c1 j).2.2.1)).toNat l)) >>= fun n =>
 if ((0 : Int) ≤ (IntKind.wrap .i64 ((1 : Int) + (itGet (.int .i64) (.pair .str (.pair (.int .i64) (.int .i64))) c1 j).2.2.1))) then
 if ((IntKind.wrap .i64 ((1 : Int) + (itGet (.int .i64) (.pair .str (.pair (.int .i64) (.int .i64))) c1 j).2.2.1)) ≤ (l.length : Int)) then
 if ((l.length : Int) ≤ (l.length : Int)) then
 script_texts (List.drop (IntKind.wrap .i64 ((1 : Int) + (itGet (.int .i64) (.pair .str (.pair (.int .i64) (.int .i64))) c1 j).2.2.1)).toNat (List.take (l.length : Int).toNat l)) >>= fun t =>
 script_right ((itGet (.int .i64) (.pair .str (.pair (.int .i64) (.int .i64))) c1 j).1.2, (n, t)) >>= fun r =>
 if r then (script_line ((itGet (.int .i64) (.pair .str (.pair (.int .i64) (.int .i64))) c1 j).2.1, (n, t)) >>= fun l1 =>
 if ((row.length + ([10] : Str).length) ≤ 9223372036854775807) then
 some (.inr ((l1 == (row ++ ([10] : Str))), ((itGet (.int .i64) (.pair .str (.pair (.int .i64) (.int .i64))) c1 j).1.2, (n, t)))) else none) else
 some (.inr (false, ((itGet (.int .i64) (.pair .str (.pair (.int .i64) (.int .i64))) c1 j).1.2, (n, t)))) else none else none else none else none else none else none
noncomputable def script_deed_l4 : ((Str × (List Str)) × ((Int × ((List Int) × (List Str))) × (List ((Bool × Int) × (Str × (Int × Int)))))) → Option ((Int × ((List Int) × (List Str))) ⊕ (Bool × (Int × ((List Int) × (List Str))))) := fixO (B := fun _ => (Int × ((List Int) × (List Str))) ⊕ (Bool × (Int × ((List Int) × (List Str))))) script_deed_l4F
theorem script_deed_l4_eq (q : ((Str × (List Str)) × ((Int × ((List Int) × (List Str))) × (List ((Bool × Int) × (Str × (Int × Int))))))) : script_deed_l4 q = script_deed_l4F script_deed_l4 q := fixO_eq (B := fun _ => (Int × ((List Int) × (List Str))) ⊕ (Bool × (Int × ((List Int) × (List Str))))) (F := script_deed_l4F) (fun ((row, l), c, c1) => (.ite (.const _) (agree_cont _ fun _ => (.ite (.ite (.app _) (.ite (.app _) (.const _))) (.const _))))) q
noncomputable def script_deed : Str → Option (((Int × ((List Int) × (List Str))) × Bool)) := fun row =>
 lib_Split (row, ([32] : Str)) >>= fun s =>
 lib_shapes () >>= fun s1 =>
 script_deed_l4 ((row, s), (((0 : Int), ([], [])), (itNew (.int .i64) (.pair .str (.pair (.int .i64) (.int .i64))) s1))) >>= fun r =>
 Sum.elim (fun r1 => some (((0 : Int), ([], [])), false)) (fun r1 => some (r1.2, r1.1)) r
noncomputable def script_Parse_l8F (self : ((Int × Str) × ((Int × Int) × ((Int × Int) × (List (Int × ((List Int) × (List Str))))))) → Option (((Int × Int) × (Int × Int)) ⊕ ((Int × Int) × ((Int × Int) × (List (Int × ((List Int) × (List Str)))))))) : ((Int × Str) × ((Int × Int) × ((Int × Int) × (List (Int × ((List Int) × (List Str))))))) → Option (((Int × Int) × (Int × Int)) ⊕ ((Int × Int) × ((Int × Int) × (List (Int × ((List Int) × (List Str))))))) := fun ((no, rest1), c, c1, c2) =>
 if (rest1 != []) then (lib_Cut (rest1, ([10] : Str)) >>= fun c3 =>
 script_deed c3.1 >>= fun d =>
 if (!c3.2.2) then some (.inl (((250 : Int), no), ((0 : Int), (0 : Int)))) else
 if (!d.2) then some (.inl (((250 : Int), no), ((0 : Int), (0 : Int)))) else
 if ((c2.length : Int) == (200 : Int)) then some (.inl (((250 : Int), no), ((0 : Int), (0 : Int)))) else
 if (sumOk (c2.length + [d.1].length) 56) then
 self (((IntKind.wrap .i64 (no + (1 : Int))), c3.2.1), (c, (c1, (c2 ++ [d.1])))) else none) else
 some (.inr (c, (c1, c2)))
noncomputable def script_Parse_l8 : ((Int × Str) × ((Int × Int) × ((Int × Int) × (List (Int × ((List Int) × (List Str))))))) → Option (((Int × Int) × (Int × Int)) ⊕ ((Int × Int) × ((Int × Int) × (List (Int × ((List Int) × (List Str))))))) := fixO (B := fun _ => ((Int × Int) × (Int × Int)) ⊕ ((Int × Int) × ((Int × Int) × (List (Int × ((List Int) × (List Str))))))) script_Parse_l8F
theorem script_Parse_l8_eq (q : ((Int × Str) × ((Int × Int) × ((Int × Int) × (List (Int × ((List Int) × (List Str)))))))) : script_Parse_l8 q = script_Parse_l8F script_Parse_l8 q := fixO_eq (B := fun _ => ((Int × Int) × (Int × Int)) ⊕ ((Int × Int) × ((Int × Int) × (List (Int × ((List Int) × (List Str))))))) (F := script_Parse_l8F) (fun ((no, rest1), c, c1, c2) => (.ite (.bind (.const _) fun _ => (.bind (.const _) fun _ => (.ite (.const _) (.ite (.const _) (.ite (.const _) (.ite (.app _) (.const _))))))) (.const _))) q
noncomputable def script_Parse : Str → Option (((Int × (Int × (List (Int × ((List Int) × (List Str)))))) × (Int × Int))) := fun s =>
 lib_Cut (s, ([10] : Str)) >>= fun c =>
 script_begin c.1 >>= fun b =>
 if (!c.2.2) then some (((0 : Int), ((0 : Int), [])), ((250 : Int), (1 : Int))) else
 if (!b.2) then some (((0 : Int), ((0 : Int), [])), ((250 : Int), (1 : Int))) else
 script_Parse_l8 (((2 : Int), c.2.1), (((0 : Int), (0 : Int)), (b.1, []))) >>= fun r =>
 Sum.elim (fun r1 => some ((r1.2.1, (r1.2.2, [])), r1.1)) (fun r1 => some ((r1.2.1.1, (r1.2.1.2, r1.2.2)), ((0 : Int), (0 : Int)))) r
noncomputable def law20_alive : Unit → Option (Bool) := fun _ =>
 script_Print ((9 : Int), ((8 : Int), [])) >>= fun p =>
 script_Parse p.1 >>= fun p1 =>
 if (p.2 == (0 : Int)) then (if (p1.2.1 == (0 : Int)) then (if (p.1 == ([119, 111, 114, 108, 100, 32, 57, 32, 56, 10] : Str)) then (if (p1.1.2.1 == (8 : Int)) then (script_Right p1.1 >>= fun r =>
 some r) else
 some false) else
 some false) else
 some false) else
 some false
noncomputable def ref20_word : Int → Option (Str) := fun kind =>
 if ((0 : Int) ≤ kind) then
 if (kind < ((List.set (List.set (List.set (List.set (List.set (List.set (List.set (List.set (List.set (List.set (List.set (List.set (List.set (List.replicate 13 []) 0 []) 1 ([98, 108, 111, 98] : Str)) 2 ([112, 117, 116] : Str)) 3 ([110, 97, 109, 101] : Str)) 4 ([117, 110, 110, 97, 109, 101] : Str)) 5 ([114, 117, 108, 101] : Str)) 6 ([117, 110, 115, 101, 116] : Str)) 7 ([102, 105, 114, 101] : Str)) 8 ([116, 105, 99, 107] : Str)) 9 ([115, 116, 101, 112] : Str)) 10 ([115, 116, 111, 112] : Str)) 11 ([97, 103, 97, 105, 110] : Str)) 12 ([99, 114, 97, 115, 104] : Str)).length : Int)) then
 if (kind.toNat < (List.set (List.set (List.set (List.set (List.set (List.set (List.set (List.set (List.set (List.set (List.set (List.set (List.set (List.replicate 13 []) 0 []) 1 ([98, 108, 111, 98] : Str)) 2 ([112, 117, 116] : Str)) 3 ([110, 97, 109, 101] : Str)) 4 ([117, 110, 110, 97, 109, 101] : Str)) 5 ([114, 117, 108, 101] : Str)) 6 ([117, 110, 115, 101, 116] : Str)) 7 ([102, 105, 114, 101] : Str)) 8 ([116, 105, 99, 107] : Str)) 9 ([115, 116, 101, 112] : Str)) 10 ([115, 116, 111, 112] : Str)) 11 ([97, 103, 97, 105, 110] : Str)) 12 ([99, 114, 97, 115, 104] : Str)).length) then
 some (elt .str (List.set (List.set (List.set (List.set (List.set (List.set (List.set (List.set (List.set (List.set (List.set (List.set (List.set (List.replicate 13 []) 0 []) 1 ([98, 108, 111, 98] : Str)) 2 ([112, 117, 116] : Str)) 3 ([110, 97, 109, 101] : Str)) 4 ([117, 110, 110, 97, 109, 101] : Str)) 5 ([114, 117, 108, 101] : Str)) 6 ([117, 110, 115, 101, 116] : Str)) 7 ([102, 105, 114, 101] : Str)) 8 ([116, 105, 99, 107] : Str)) 9 ([115, 116, 101, 112] : Str)) 10 ([115, 116, 111, 112] : Str)) 11 ([97, 103, 97, 105, 110] : Str)) 12 ([99, 114, 97, 115, 104] : Str)) kind.toNat) else none else none else none
noncomputable def ref03_Split_l5F (self : ((Int × (Str × (Str × Int))) × (List Str)) → Option ((Str × (List Str)))) : ((Int × (Str × (Str × Int))) × (List Str)) → Option ((Str × (List Str))) := fun ((i, now, s, by1), c) =>
 if (decide (i < (s.length : Int))) then (if ((0 : Int) ≤ i) then
 if (i < (s.length : Int)) then
 if ((bt s i) == by1) then (if (sumOk (c.length + [now].length) 16) then
 self (((IntKind.wrap .i64 (i + (1 : Int))), ([], (s, by1))), (c ++ [now])) else none) else
 if ((0 : Int) ≤ i) then
 if (i ≤ (IntKind.wrap .i64 (i + (1 : Int)))) then
 if ((IntKind.wrap .i64 (i + (1 : Int))) ≤ (s.length : Int)) then
 if ((now.length + (List.drop i.toNat (List.take (IntKind.wrap .i64 (i + (1 : Int))).toNat s)).length) ≤ 9223372036854775807) then
 self (((IntKind.wrap .i64 (i + (1 : Int))), ((now ++ (List.drop i.toNat (List.take (IntKind.wrap .i64 (i + (1 : Int))).toNat s))), (s, by1))), c) else none else none else none else none else none else none) else
 some (now, c)
noncomputable def ref03_Split_l5 : ((Int × (Str × (Str × Int))) × (List Str)) → Option ((Str × (List Str))) := fixO (B := fun _ => (Str × (List Str))) ref03_Split_l5F
theorem ref03_Split_l5_eq (q : ((Int × (Str × (Str × Int))) × (List Str))) : ref03_Split_l5 q = ref03_Split_l5F ref03_Split_l5 q := fixO_eq (B := fun _ => (Str × (List Str))) (F := ref03_Split_l5F) (fun ((i, now, s, by1), c) => (.ite (.ite (.ite (.ite (.ite (.app _) (.const _)) (.ite (.ite (.ite (.ite (.app _) (.const _)) (.const _)) (.const _)) (.const _))) (.const _)) (.const _)) (.const _))) q
noncomputable def ref03_Split : (Str × Int) → Option ((List Str)) := fun (s, by1) =>
 ref03_Split_l5 (((0 : Int), ([], (s, by1))), []) >>= fun r =>
 if (sumOk (r.2.length + [r.1].length) 16) then
 some (r.2 ++ [r.1]) else none
noncomputable def ref20_number_l4F (self : (Int × (Str × Int)) → Option (Int ⊕ (Int × Str))) : (Int × (Str × Int)) → Option (Int ⊕ (Int × Str)) := fun (i, s, n) =>
 if (decide (i < (s.length : Int))) then (if ((0 : Int) ≤ i) then
 if (i < (s.length : Int)) then
 if (decide ((bt s i) < (48 : Int))) then some (.inl (-1 : Int)) else
 if ((0 : Int) ≤ i) then
 if (i < (s.length : Int)) then
 if (decide ((bt s i) > (57 : Int))) then some (.inl (-1 : Int)) else
 if (decide (n > (1099511627776 : Int))) then some (.inl (-1 : Int)) else
 if ((0 : Int) ≤ i) then
 if (i < (s.length : Int)) then
 self ((IntKind.wrap .i64 (i + (1 : Int))), (s, (IntKind.wrap .i64 ((IntKind.wrap .i64 ((10 : Int) * n)) + (IntKind.wrap .i64 (IntKind.wrap .u8 ((bt s i) - (48 : Int)))))))) else none else none else none else none else none else none) else
 some (.inr (n, s))
noncomputable def ref20_number_l4 : (Int × (Str × Int)) → Option (Int ⊕ (Int × Str)) := fixO (B := fun _ => Int ⊕ (Int × Str)) ref20_number_l4F
theorem ref20_number_l4_eq (q : (Int × (Str × Int))) : ref20_number_l4 q = ref20_number_l4F ref20_number_l4 q := fixO_eq (B := fun _ => Int ⊕ (Int × Str)) (F := ref20_number_l4F) (fun (i, s, n) => (.ite (.ite (.ite (.ite (.const _) (.ite (.ite (.ite (.const _) (.ite (.const _) (.ite (.ite (.app _) (.const _)) (.const _)))) (.const _)) (.const _))) (.const _)) (.const _)) (.const _))) q
noncomputable def ref20_number : Str → Option (Int) := fun s =>
 ref20_number_l4 ((0 : Int), (s, (0 : Int))) >>= fun r =>
 Sum.elim (fun r1 => some r1) (fun r1 => lib_Itoa r1.1 >>= fun i =>
 if (i != r1.2) then some (-1 : Int) else
 some r1.1) r
noncomputable def ref20_begin : Str → Option ((Int × Int)) := fun s =>
 ref03_Split (s, (32 : Int)) >>= fun s1 =>
 if ((s1.length : Int) != (3 : Int)) then some ((0 : Int), (0 : Int)) else
 if ((0 : Int) < (s1.length : Int)) then
 if ((elt .str s1 0) != ([119, 111, 114, 108, 100] : Str)) then some ((0 : Int), (0 : Int)) else
 if ((1 : Int) < (s1.length : Int)) then
 ref20_number (elt .str s1 1) >>= fun n =>
 if ((2 : Int) < (s1.length : Int)) then
 ref20_number (elt .str s1 2) >>= fun n1 =>
 some (n, n1) else none else none else none
noncomputable def ref20_deed_l13F (self : ((Int × (Int × ((List Str) × Int))) × (Int × (Int × ((List Int) × (List Str))))) → Option (Int ⊕ (Int × (Int × ((List Int) × (List Str)))))) : ((Int × (Int × ((List Str) × Int))) × (Int × (Int × ((List Int) × (List Str))))) → Option (Int ⊕ (Int × (Int × ((List Int) × (List Str))))) := fun ((x38, k, x36, x37), c, c1, c2, c3) =>
 if (decide (x38 < x37)) then (if ((0 : Int) ≤ x38) then
 if (x38 < (x36.length : Int)) then
 ref20_nums k >>= fun n =>
 if (decide (x38 < n)) then (ref20_number (elt .str x36 x38.toNat) >>= fun n1 =>
 if (sumOk (c2.length + [n1].length) 8) then
 self (((IntKind.wrap .i64 (x38 + (1 : Int))), (k, (x36, x37))), (c, (c1, ((c2 ++ [n1]), c3)))) else none) else
 if (((elt .str x36 x38.toNat).length : Int) == (0 : Int)) then some (.inl (0 : Int)) else
 if ((0 : Int) < ((elt .str x36 x38.toNat).length : Int)) then
 if ((bt (elt .str x36 x38.toNat) (0 : Int)) != (120 : Int)) then some (.inl (0 : Int)) else
 if ((1 : Int) ≤ ((elt .str x36 x38.toNat).length : Int)) then
 if (((elt .str x36 x38.toNat).length : Int) ≤ ((elt .str x36 x38.toNat).length : Int)) then
 ref01_Bytes (List.drop 1 (List.take ((elt .str x36 x38.toNat).length : Int).toNat (elt .str x36 x38.toNat))) >>= fun b =>
 if (!b.2) then some (.inl (0 : Int)) else
 if (sumOk (c3.length + [b.1].length) 16) then
 self (((IntKind.wrap .i64 (x38 + (1 : Int))), (k, (x36, x37))), (c, (c1, (c2, (c3 ++ [b.1]))))) else none else none else none else none else none else none) else
 some (.inr (c1, (c, (c2, c3))))
noncomputable def ref20_deed_l13 : ((Int × (Int × ((List Str) × Int))) × (Int × (Int × ((List Int) × (List Str))))) → Option (Int ⊕ (Int × (Int × ((List Int) × (List Str))))) := fixO (B := fun _ => Int ⊕ (Int × (Int × ((List Int) × (List Str))))) ref20_deed_l13F
theorem ref20_deed_l13_eq (q : ((Int × (Int × ((List Str) × Int))) × (Int × (Int × ((List Int) × (List Str)))))) : ref20_deed_l13 q = ref20_deed_l13F ref20_deed_l13 q := fixO_eq (B := fun _ => Int ⊕ (Int × (Int × ((List Int) × (List Str))))) (F := ref20_deed_l13F) (fun ((x38, k, x36, x37), c, c1, c2, c3) => (.ite (.ite (.ite (.bind (.const _) fun _ => (.ite (.bind (.const _) fun _ => (.ite (.app _) (.const _))) (.ite (.const _) (.ite (.ite (.const _) (.ite (.ite (.bind (.const _) fun _ => (.ite (.const _) (.ite (.app _) (.const _)))) (.const _)) (.const _))) (.const _))))) (.const _)) (.const _)) (.const _))) q
noncomputable def ref20_deed_l4F (self : ((Int × (List Str)) × Int) → Option ((Int × ((List Int) × (List Str))) ⊕ Int)) : ((Int × (List Str)) × Int) → Option ((Int × ((List Int) × (List Str))) ⊕ Int) := fun ((k, l), c) =>
 if (decide (k < (13 : Int))) then (if ((0 : Int) < (l.length : Int)) then
 ref20_word k >>= fun w =>
 if ((elt .str l 0) != w) then (self (((IntKind.wrap .i64 (k + (1 : Int))), l), c)) else
 ref20_nums k >>= fun n =>
 ref20_texts k >>= fun t =>
 if ((l.length : Int) != (IntKind.wrap .i64 ((IntKind.wrap .i64 ((1 : Int) + n)) + t))) then (self (((IntKind.wrap .i64 (k + (1 : Int))), l), c)) else
 if ((1 : Int) ≤ (l.length : Int)) then
 if ((l.length : Int) ≤ (l.length : Int)) then
 ref20_deed_l13 (((0 : Int), (k, ((List.drop 1 (List.take (l.length : Int).toNat l)), ((List.drop 1 (List.take (l.length : Int).toNat l)).length : Int)))), (k, (c, ([], [])))) >>= fun r =>
 Sum.elim (fun r1 => some (.inl (r1, ([], [])))) (fun r1 => some (.inl r1.2)) r else none else none else none) else
 some (.inr c)
noncomputable def ref20_deed_l4 : ((Int × (List Str)) × Int) → Option ((Int × ((List Int) × (List Str))) ⊕ Int) := fixO (B := fun _ => (Int × ((List Int) × (List Str))) ⊕ Int) ref20_deed_l4F
theorem ref20_deed_l4_eq (q : ((Int × (List Str)) × Int)) : ref20_deed_l4 q = ref20_deed_l4F ref20_deed_l4 q := fixO_eq (B := fun _ => (Int × ((List Int) × (List Str))) ⊕ Int) (F := ref20_deed_l4F) (fun ((k, l), c) => (.ite (.ite (.bind (.const _) fun _ => (.ite (.app _) (.bind (.const _) fun _ => (.bind (.const _) fun _ => (.ite (.app _) (.const _)))))) (.const _)) (.const _))) q
noncomputable def ref20_deed : Str → Option ((Int × ((List Int) × (List Str)))) := fun s =>
 ref03_Split (s, (32 : Int)) >>= fun s1 =>
 ref20_deed_l4 (((1 : Int), s1), (0 : Int)) >>= fun r =>
 Sum.elim (fun r1 => some r1) (fun r1 => some ((0 : Int), ([], []))) r
noncomputable def ref20_Parse_l6F (self : ((Int × (Int × (Int × Str))) × ((Int × Int) × ((Int × Int) × (List (Int × ((List Int) × (List Str))))))) → Option ((Int × (Int × Int)) ⊕ ((Int × (Str × Int)) × ((Int × Int) × ((Int × Int) × (List (Int × ((List Int) × (List Str))))))))) : ((Int × (Int × (Int × Str))) × ((Int × Int) × ((Int × Int) × (List (Int × ((List Int) × (List Str))))))) → Option ((Int × (Int × Int)) ⊕ ((Int × (Str × Int)) × ((Int × Int) × ((Int × Int) × (List (Int × ((List Int) × (List Str)))))))) := fun ((i, no, from1, s), c, c1, c2) =>
 if (decide (i < (s.length : Int))) then (if ((0 : Int) ≤ i) then
 if (i < (s.length : Int)) then
 if ((bt s i) != (10 : Int)) then (self (((IntKind.wrap .i64 (i + (1 : Int))), (no, (from1, s))), (c, (c1, c2)))) else
 if ((0 : Int) ≤ from1) then
 if (from1 ≤ i) then
 if (i ≤ (s.length : Int)) then
 if (no == (1 : Int)) then (ref20_begin (List.drop from1.toNat (List.take i.toNat s)) >>= fun b =>
 ref20_Begins (b.1, (b.2, [])) >>= fun b1 =>
 if (!b1) then some (.inl ((1 : Int), ((0 : Int), (0 : Int)))) else
 self (((IntKind.wrap .i64 (i + (1 : Int))), ((IntKind.wrap .i64 (no + (1 : Int))), ((IntKind.wrap .i64 (i + (1 : Int))), s))), (c, (b, [])))) else
 ref20_deed (List.drop from1.toNat (List.take i.toNat s)) >>= fun d =>
 ref20_IsDeed d >>= fun i1 =>
 if (!i1) then some (.inl (no, ((0 : Int), (0 : Int)))) else
 if ((c2.length : Int) == (200 : Int)) then some (.inl (no, ((0 : Int), (0 : Int)))) else
 if (sumOk (c2.length + [d].length) 56) then
 self (((IntKind.wrap .i64 (i + (1 : Int))), ((IntKind.wrap .i64 (no + (1 : Int))), ((IntKind.wrap .i64 (i + (1 : Int))), s))), (c, (c1, (c2 ++ [d])))) else none else none else none else none else none else none) else
 some (.inr ((no, (s, from1)), (c, (c1, c2))))
noncomputable def ref20_Parse_l6 : ((Int × (Int × (Int × Str))) × ((Int × Int) × ((Int × Int) × (List (Int × ((List Int) × (List Str))))))) → Option ((Int × (Int × Int)) ⊕ ((Int × (Str × Int)) × ((Int × Int) × ((Int × Int) × (List (Int × ((List Int) × (List Str)))))))) := fixO (B := fun _ => (Int × (Int × Int)) ⊕ ((Int × (Str × Int)) × ((Int × Int) × ((Int × Int) × (List (Int × ((List Int) × (List Str)))))))) ref20_Parse_l6F
theorem ref20_Parse_l6_eq (q : ((Int × (Int × (Int × Str))) × ((Int × Int) × ((Int × Int) × (List (Int × ((List Int) × (List Str)))))))) : ref20_Parse_l6 q = ref20_Parse_l6F ref20_Parse_l6 q := fixO_eq (B := fun _ => (Int × (Int × Int)) ⊕ ((Int × (Str × Int)) × ((Int × Int) × ((Int × Int) × (List (Int × ((List Int) × (List Str)))))))) (F := ref20_Parse_l6F) (fun ((i, no, from1, s), c, c1, c2) => (.ite (.ite (.ite (.ite (.app _) (.ite (.ite (.ite (.ite (.bind (.const _) fun _ => (.bind (.const _) fun _ => (.ite (.const _) (.app _)))) (.bind (.const _) fun _ => (.bind (.const _) fun _ => (.ite (.const _) (.ite (.const _) (.ite (.app _) (.const _))))))) (.const _)) (.const _)) (.const _))) (.const _)) (.const _)) (.const _))) q
noncomputable def ref20_Parse : Str → Option (((Int × (Int × (List (Int × ((List Int) × (List Str)))))) × Int)) := fun s =>
 ref20_Parse_l6 (((0 : Int), ((1 : Int), ((0 : Int), s))), (((0 : Int), (0 : Int)), (((0 : Int), (0 : Int)), []))) >>= fun r =>
 Sum.elim (fun r1 => some ((r1.2.1, (r1.2.2, [])), r1.1)) (fun r1 => if (decide (r1.1.2.2 < (r1.1.2.1.length : Int))) then some (((0 : Int), ((0 : Int), [])), r1.1.1) else
 if (r1.1.1 == (1 : Int)) then some (((0 : Int), ((0 : Int), [])), r1.1.1) else
 some ((r1.2.2.1.1, (r1.2.2.1.2, r1.2.2.2)), (0 : Int))) r
noncomputable def ref20_Like_l17F (self : ((Int × (Int × (Int × Int))) × ((Int × ((List Int) × (List Str))) × ((Int × ((List Int) × (List Str))) × ((Int × (Int × (List (Int × ((List Int) × (List Str)))))) × (Int × (Int × (List (Int × ((List Int) × (List Str)))))))))) → Option (Bool ⊕ ((Int × Int) × ((Int × (Int × (List (Int × ((List Int) × (List Str)))))) × (Int × (Int × (List (Int × ((List Int) × (List Str)))))))))) : ((Int × (Int × (Int × Int))) × ((Int × ((List Int) × (List Str))) × ((Int × ((List Int) × (List Str))) × ((Int × (Int × (List (Int × ((List Int) × (List Str)))))) × (Int × (Int × (List (Int × ((List Int) × (List Str)))))))))) → Option (Bool ⊕ ((Int × Int) × ((Int × (Int × (List (Int × ((List Int) × (List Str)))))) × (Int × (Int × (List (Int × ((List Int) × (List Str))))))))) := fun ((x71, x32, x33, x70), c, c1, c2, c3) =>
 if (decide (x71 < x70)) then (if ((0 : Int) ≤ x71) then
 if (x71 < (c1.2.1.length : Int)) then
 if ((0 : Int) ≤ x71) then
 if (x71 < (c.2.1.length : Int)) then
 if ((elt (.int .i64) c1.2.1 x71.toNat) != (elt (.int .i64) c.2.1 x71.toNat)) then some (.inl false) else
 self (((IntKind.wrap .i64 (x71 + (1 : Int))), (x32, (x33, x70))), (c, (c1, (c2, c3)))) else none else none else none else none) else
 some (.inr ((x32, x33), (c2, c3)))
noncomputable def ref20_Like_l17 : ((Int × (Int × (Int × Int))) × ((Int × ((List Int) × (List Str))) × ((Int × ((List Int) × (List Str))) × ((Int × (Int × (List (Int × ((List Int) × (List Str)))))) × (Int × (Int × (List (Int × ((List Int) × (List Str)))))))))) → Option (Bool ⊕ ((Int × Int) × ((Int × (Int × (List (Int × ((List Int) × (List Str)))))) × (Int × (Int × (List (Int × ((List Int) × (List Str))))))))) := fixO (B := fun _ => Bool ⊕ ((Int × Int) × ((Int × (Int × (List (Int × ((List Int) × (List Str)))))) × (Int × (Int × (List (Int × ((List Int) × (List Str))))))))) ref20_Like_l17F
theorem ref20_Like_l17_eq (q : ((Int × (Int × (Int × Int))) × ((Int × ((List Int) × (List Str))) × ((Int × ((List Int) × (List Str))) × ((Int × (Int × (List (Int × ((List Int) × (List Str)))))) × (Int × (Int × (List (Int × ((List Int) × (List Str))))))))))) : ref20_Like_l17 q = ref20_Like_l17F ref20_Like_l17 q := fixO_eq (B := fun _ => Bool ⊕ ((Int × Int) × ((Int × (Int × (List (Int × ((List Int) × (List Str)))))) × (Int × (Int × (List (Int × ((List Int) × (List Str))))))))) (F := ref20_Like_l17F) (fun ((x71, x32, x33, x70), c, c1, c2, c3) => (.ite (.ite (.ite (.ite (.ite (.ite (.const _) (.app _)) (.const _)) (.const _)) (.const _)) (.const _)) (.const _))) q
noncomputable def ref20_Like_l6F (self : ((Int × Int) × ((Int × (Int × (List (Int × ((List Int) × (List Str)))))) × (Int × (Int × (List (Int × ((List Int) × (List Str)))))))) → Option (Bool ⊕ Unit)) : ((Int × Int) × ((Int × (Int × (List (Int × ((List Int) × (List Str)))))) × (Int × (Int × (List (Int × ((List Int) × (List Str)))))))) → Option (Bool ⊕ Unit) := fun ((x33, x32), c, c1) =>
 if (decide (x33 < x32)) then (if ((0 : Int) ≤ x33) then
 if (x33 < (c1.2.2.length : Int)) then
 if ((0 : Int) ≤ x33) then
 if (x33 < (c.2.2.length : Int)) then
 if ((elt (.pair (.int .i64) (.pair (.sl (.int .i64)) (.sl .str))) c1.2.2 x33.toNat).1 != (elt (.pair (.int .i64) (.pair (.sl (.int .i64)) (.sl .str))) c.2.2 x33.toNat).1) then some (.inl false) else
 if (((elt (.pair (.int .i64) (.pair (.sl (.int .i64)) (.sl .str))) c1.2.2 x33.toNat).2.1.length : Int) != ((elt (.pair (.int .i64) (.pair (.sl (.int .i64)) (.sl .str))) c.2.2 x33.toNat).2.1.length : Int)) then some (.inl false) else
 ref01_Same ((elt (.pair (.int .i64) (.pair (.sl (.int .i64)) (.sl .str))) c1.2.2 x33.toNat).2.2, (elt (.pair (.int .i64) (.pair (.sl (.int .i64)) (.sl .str))) c.2.2 x33.toNat).2.2) >>= fun s =>
 if (!s) then some (.inl false) else
 ref20_Like_l17 (((0 : Int), (x32, (x33, ((elt (.pair (.int .i64) (.pair (.sl (.int .i64)) (.sl .str))) c1.2.2 x33.toNat).2.1.length : Int)))), ((elt (.pair (.int .i64) (.pair (.sl (.int .i64)) (.sl .str))) c.2.2 x33.toNat), ((elt (.pair (.int .i64) (.pair (.sl (.int .i64)) (.sl .str))) c1.2.2 x33.toNat), (c, c1)))) >>= fun r =>
 Sum.elim (fun r1 => some (.inl r1)) (fun r1 => self (((IntKind.wrap .i64 (r1.1.2 + (1 : Int))), r1.1.1), r1.2)) r else none else none else none else none) else
 some (.inr ())
noncomputable def ref20_Like_l6 : ((Int × Int) × ((Int × (Int × (List (Int × ((List Int) × (List Str)))))) × (Int × (Int × (List (Int × ((List Int) × (List Str)))))))) → Option (Bool ⊕ Unit) := fixO (B := fun _ => Bool ⊕ Unit) ref20_Like_l6F
theorem ref20_Like_l6_eq (q : ((Int × Int) × ((Int × (Int × (List (Int × ((List Int) × (List Str)))))) × (Int × (Int × (List (Int × ((List Int) × (List Str))))))))) : ref20_Like_l6 q = ref20_Like_l6F ref20_Like_l6 q := fixO_eq (B := fun _ => Bool ⊕ Unit) (F := ref20_Like_l6F) (fun ((x33, x32), c, c1) => (.ite (.ite (.ite (.ite (.ite (.ite (.const _) (.ite (.const _) (.bind (.const _) fun _ => (.ite (.const _) (.bind (.const _) fun _ => (.sum (fun _ => (.const _)) (fun _ => (.app _)))))))) (.const _)) (.const _)) (.const _)) (.const _)) (.const _))) q
noncomputable def ref20_Like : ((Int × (Int × (List (Int × ((List Int) × (List Str)))))) × (Int × (Int × (List (Int × ((List Int) × (List Str))))))) → Option (Bool) := fun (a, b) =>
 if (a.1 != b.1) then some false else
 if (a.2.1 != b.2.1) then some false else
 if ((a.2.2.length : Int) != (b.2.2.length : Int)) then some false else
 ref20_Like_l6 (((0 : Int), (a.2.2.length : Int)), (b, a)) >>= fun r =>
 Sum.elim (fun r1 => some r1) (fun r1 => some true) r
end Go.Plain
