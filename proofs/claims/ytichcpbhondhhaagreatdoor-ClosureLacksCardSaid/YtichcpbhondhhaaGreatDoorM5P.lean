import Derived.Test.YtichcpbhondhhaaGreatDoorBMLib
import Derived.Test.YtichcpbhondhhaaGreatDoorTKeys
import Derived.Test.YtichcpbhondhhaaGreatDoorT4P
namespace Go.Plain
open Go.AM
set_option linter.unusedVariables false
noncomputable def i_stringslite_HasPrefix : (Str × Str) → Option (Bool) := fun (s, prefix1) =>
 if (decide ((s.length : Int) ≥ (prefix1.length : Int))) then (if ((prefix1.length : Int) ≤ (s.length : Int)) then
 some ((List.take (prefix1.length : Int).toNat s) == prefix1) else none) else
 some false
noncomputable def i_stringslite_CutPrefix : (Str × Str) → Option ((Str × Bool)) := fun (s, prefix1) =>
 i_stringslite_HasPrefix (s, prefix1) >>= fun h =>
 if (!h) then some (s, false) else
 if ((prefix1.length : Int) ≤ (s.length : Int)) then
 if ((s.length : Int) ≤ (s.length : Int)) then
 some ((List.drop (prefix1.length : Int).toNat (List.take (s.length : Int).toNat s)), true) else none else none
noncomputable def strings_CutPrefix : (Str × Str) → Option ((Str × Bool)) := fun (s, prefix1) =>
 i_stringslite_CutPrefix (s, prefix1) >>= fun c =>
 some c
noncomputable def octet_Bytes_l7F (self : ((Int × (Str × Int)) × (List Int)) → Option ((Str × Int) ⊕ (List Int))) : ((Int × (Str × Int)) × (List Int)) → Option ((Str × Int) ⊕ (List Int)) := fun ((x18, s, x17), c) =>
 if (decide (x18 < x17)) then (if ((0 : Int) ≤ (IntKind.wrap .i64 ((2 : Int) * x18))) then
 if ((IntKind.wrap .i64 ((2 : Int) * x18)) < (s.length : Int)) then
 lib_IndexByte (([48, 49, 50, 51, 52, 53, 54, 55, 56, 57, 97, 98, 99, 100, 101, 102] : Str), (bt s (IntKind.wrap .i64 ((2 : Int) * x18)))) >>= fun i =>
 if ((0 : Int) ≤ (IntKind.wrap .i64 ((IntKind.wrap .i64 ((2 : Int) * x18)) + (1 : Int)))) then
 if ((IntKind.wrap .i64 ((IntKind.wrap .i64 ((2 : Int) * x18)) + (1 : Int))) < (s.length : Int)) then
 lib_IndexByte (([48, 49, 50, 51, 52, 53, 54, 55, 56, 57, 97, 98, 99, 100, 101, 102] : Str), (bt s (IntKind.wrap .i64 ((IntKind.wrap .i64 ((2 : Int) * x18)) + (1 : Int))))) >>= fun i1 =>
 if (decide (i < (0 : Int))) then some (.inl ([], (4 : Int))) else
 if (decide (i1 < (0 : Int))) then some (.inl ([], (4 : Int))) else
 if ((0 : Int) ≤ x18) then
 if (x18 < (c.length : Int)) then
 if (x18.toNat < c.length) then
 self (((IntKind.wrap .i64 (x18 + (1 : Int))), (s, x17)), (List.set c x18.toNat (IntKind.wrap .u8 (IntKind.wrap .i64 ((IntKind.wrap .i64 (i * (16 : Int))) + i1))))) else none else none else none else none else none else none else none) else
 some (.inr c)
noncomputable def octet_Bytes_l7 : ((Int × (Str × Int)) × (List Int)) → Option ((Str × Int) ⊕ (List Int)) := fixO (B := fun _ => (Str × Int) ⊕ (List Int)) octet_Bytes_l7F
theorem octet_Bytes_l7_eq (q : ((Int × (Str × Int)) × (List Int))) : octet_Bytes_l7 q = octet_Bytes_l7F octet_Bytes_l7 q := fixO_eq (B := fun _ => (Str × Int) ⊕ (List Int)) (fun ((x18, s, x17), c) => (.ite (.ite (.ite (.bind (.const _) fun _ => (.ite (.ite (.bind (.const _) fun _ => (.ite (.const _) (.ite (.const _) (.ite (.ite (.ite (.app _) (.const _)) (.const _)) (.const _))))) (.const _)) (.const _))) (.const _)) (.const _)) (.const _))) q
noncomputable def octet_Bytes : Str → Option ((Str × Int)) := fun s =>
 if ((Int.tmod (s.length : Int) (2 : Int)) != (0 : Int)) then some ([], (4 : Int)) else
 if ((IntKind.wrap .i64 (Int.tdiv (s.length : Int) (2 : Int))) = (IntKind.wrap .i64 (Int.tdiv (s.length : Int) (2 : Int)))) then
 if ((0 : Int) ≤ (IntKind.wrap .i64 (Int.tdiv (s.length : Int) (2 : Int)))) then
 if (sumOk (IntKind.wrap .i64 (Int.tdiv (s.length : Int) (2 : Int))).toNat 1) then
 octet_Bytes_l7 (((0 : Int), (s, ((List.replicate (IntKind.wrap .i64 (Int.tdiv (s.length : Int) (2 : Int))).toNat (0 : Int)).length : Int))), (List.replicate (IntKind.wrap .i64 (Int.tdiv (s.length : Int) (2 : Int))).toNat (0 : Int))) >>= fun r =>
 Sum.elim (fun r1 => some r1) (fun r1 => some ((bytesStr r1), (0 : Int))) r else none else none else none
noncomputable def digest_Parse : Str → Option ((Str × Int)) := fun s =>
 strings_CutPrefix (s, ([115, 104, 97, 50, 53, 54, 58] : Str)) >>= fun c =>
 octet_Bytes c.1 >>= fun b =>
 if (!c.2) then some ([], (6 : Int)) else
 if (b.2 != (0 : Int)) then some ([], (6 : Int)) else
 if ((b.1.length : Int) != (32 : Int)) then some ([], (6 : Int)) else
 some (b.1, (0 : Int))
noncomputable def manifest_is : Str → Option (Bool) := fun s =>
 digest_Parse s >>= fun p =>
 some (p.2 == (0 : Int))
noncomputable def slices_Contains_string : ((List Str) × Str) → Option (Bool) := fun (s, v) =>
 slices_Index_string (s, v) >>= fun s1 =>
 some (decide (s1 ≥ (0 : Int)))
noncomputable def manifest_Right_l5F (self : ((Int × ((List Str) × Int)) × (Bool × (Str × ((List (Str × Int)) × (List Str))))) → Option (Bool ⊕ (Bool × (Str × ((List (Str × Int)) × (List Str)))))) : ((Int × ((List Str) × Int)) × (Bool × (Str × ((List (Str × Int)) × (List Str))))) → Option (Bool ⊕ (Bool × (Str × ((List (Str × Int)) × (List Str))))) := fun ((x11, x9, x10), c) =>
 if (decide (x11 < x10)) then (if ((0 : Int) ≤ x11) then
 if (x11 < (x9.length : Int)) then
 manifest_is (elt .str x9 x11.toNat) >>= fun i =>
 if (!i) then some (.inl false) else
 if ((0 : Int) ≤ x11) then
 if (x11 ≤ (c.2.2.2.length : Int)) then
 slices_Contains_string ((List.take x11.toNat c.2.2.2), (elt .str x9 x11.toNat)) >>= fun s =>
 if s then some (.inl false) else
 self (((IntKind.wrap .i64 (x11 + (1 : Int))), (x9, x10)), c) else none else none else none else none) else
 some (.inr c)
noncomputable def manifest_Right_l5 : ((Int × ((List Str) × Int)) × (Bool × (Str × ((List (Str × Int)) × (List Str))))) → Option (Bool ⊕ (Bool × (Str × ((List (Str × Int)) × (List Str))))) := fixO (B := fun _ => Bool ⊕ (Bool × (Str × ((List (Str × Int)) × (List Str))))) manifest_Right_l5F
theorem manifest_Right_l5_eq (q : ((Int × ((List Str) × Int)) × (Bool × (Str × ((List (Str × Int)) × (List Str)))))) : manifest_Right_l5 q = manifest_Right_l5F manifest_Right_l5 q := fixO_eq (B := fun _ => Bool ⊕ (Bool × (Str × ((List (Str × Int)) × (List Str))))) (fun ((x11, x9, x10), c) => (.ite (.ite (.ite (.bind (.const _) fun _ => (.ite (.const _) (.ite (.ite (.bind (.const _) fun _ => (.ite (.const _) (.app _))) (.const _)) (.const _)))) (.const _)) (.const _)) (.const _))) q
noncomputable def manifest_Right_1 : (Str × Int) → Option (Bool) := fun l =>
 manifest_is l.1 >>= fun i =>
 if (!i) then some true else
 if (decide (l.2 < (0 : Int))) then some true else
 some (decide (l.2 > (4096 : Int)))
noncomputable def slices_IndexFunc_api_Layer_yfr_l3F (self : (Int × ((List (Str × Int)) × Int)) → Option (Int ⊕ Unit)) : (Int × ((List (Str × Int)) × Int)) → Option (Int ⊕ Unit) := fun (x8, s, x7) =>
 if (decide (x8 < x7)) then (if ((0 : Int) ≤ x8) then
 if (x8 < (s.length : Int)) then
 manifest_Right_1 (elt (.pair .str (.int .i64)) s x8.toNat) >>= fun r =>
 if r then some (.inl x8) else
 self ((IntKind.wrap .i64 (x8 + (1 : Int))), (s, x7)) else none else none) else
 some (.inr ())
noncomputable def slices_IndexFunc_api_Layer_yfr_l3 : (Int × ((List (Str × Int)) × Int)) → Option (Int ⊕ Unit) := fixO (B := fun _ => Int ⊕ Unit) slices_IndexFunc_api_Layer_yfr_l3F
theorem slices_IndexFunc_api_Layer_yfr_l3_eq (q : (Int × ((List (Str × Int)) × Int))) : slices_IndexFunc_api_Layer_yfr_l3 q = slices_IndexFunc_api_Layer_yfr_l3F slices_IndexFunc_api_Layer_yfr_l3 q := fixO_eq (B := fun _ => Int ⊕ Unit) (fun (x8, s, x7) => (.ite (.ite (.ite (.bind (.const _) fun _ => (.ite (.const _) (.app _))) (.const _)) (.const _)) (.const _))) q
noncomputable def slices_IndexFunc_api_Layer_yfr : (List (Str × Int)) → Option (Int) := fun s =>
 slices_IndexFunc_api_Layer_yfr_l3 ((0 : Int), (s, (s.length : Int))) >>= fun r =>
 Sum.elim (fun r1 => some r1) (fun r1 => some (-1 : Int)) r
noncomputable def slices_ContainsFunc_api_Layer_yfr : (List (Str × Int)) → Option (Bool) := fun s =>
 slices_IndexFunc_api_Layer_yfr s >>= fun y =>
 some (decide (y ≥ (0 : Int)))
noncomputable def manifest_Right : (Bool × (Str × ((List (Str × Int)) × (List Str)))) → Option (Bool) := fun m =>
 if m.1 then (manifest_Right_l5 (((0 : Int), (m.2.2.2, (m.2.2.2.length : Int))), m) >>= fun r =>
 Sum.elim (fun r1 => some r1) (fun r1 => if (decide ((r1.2.2.2.length : Int) ≥ (1 : Int))) then (if (decide ((r1.2.2.2.length : Int) ≤ (8 : Int))) then (if (r1.2.1 == []) then some ((r1.2.2.1.length : Int) == (0 : Int)) else
 some false) else
 some false) else
 some false) r) else
 manifest_is m.2.1 >>= fun i =>
 if i then (if ((m.2.2.2.length : Int) == (0 : Int)) then (if (decide ((m.2.2.1.length : Int) ≤ (8 : Int))) then (slices_ContainsFunc_api_Layer_yfr m.2.2.1 >>= fun y =>
 some (!y)) else
 some false) else
 some false) else
 some false
noncomputable def manifest_word : Str → Option (GVal) := fun s =>
 some (GVal.mk (2 : Int) (0 : Int) s [] [])
noncomputable def manifest_row_string_5l4_l4F (self : ((Int × ((List Str) × Int)) × ((Int × (Int × (Str × (List Str)))) × (GVal × (List GVal)))) → Option ((GVal × ((Int × (Int × (Str × (List Str)))) × (List GVal))))) : ((Int × ((List Str) × Int)) × ((Int × (Int × (Str × (List Str)))) × (GVal × (List GVal)))) → Option ((GVal × ((Int × (Int × (Str × (List Str)))) × (List GVal)))) := fun ((x11, x9, x10), c, c1, c2) =>
 if (decide (x11 < x10)) then (if ((0 : Int) ≤ x11) then
 if (x11 < (x9.length : Int)) then
 manifest_word (elt .str x9 x11.toNat) >>= fun w =>
 if (sumOk (c2.length + [w.re].length) 80) then
 self (((IntKind.wrap .i64 (x11 + (1 : Int))), (x9, x10)), (c, (c1.re, (c2 ++ [w.re])))) else none else none else none) else
 some (c1.re, (c, c2))
noncomputable def manifest_row_string_5l4_l4 : ((Int × ((List Str) × Int)) × ((Int × (Int × (Str × (List Str)))) × (GVal × (List GVal)))) → Option ((GVal × ((Int × (Int × (Str × (List Str)))) × (List GVal)))) := fixO (B := fun _ => (GVal × ((Int × (Int × (Str × (List Str)))) × (List GVal)))) manifest_row_string_5l4_l4F
theorem manifest_row_string_5l4_l4_eq (q : ((Int × ((List Str) × Int)) × ((Int × (Int × (Str × (List Str)))) × (GVal × (List GVal))))) : manifest_row_string_5l4_l4 q = manifest_row_string_5l4_l4F manifest_row_string_5l4_l4 q := fixO_eq (B := fun _ => (GVal × ((Int × (Int × (Str × (List Str)))) × (List GVal)))) (fun ((x11, x9, x10), c, c1, c2) => (.ite (.ite (.ite (.bind (.const _) fun _ => (.ite (.app _) (.const _))) (.const _)) (.const _)) (.const _))) q
noncomputable def manifest_row_string_5l4 : (List Str) → Option (GVal) := fun l =>
 manifest_row_string_5l4_l4 (((0 : Int), (l, (l.length : Int))), (((3 : Int), ((0 : Int), ([], []))), ((GVal.mk (0 : Int) (0 : Int) [] [] []), []))) >>= fun r =>
 some (GVal.mk r.2.1.1 r.2.1.2.1 r.2.1.2.2.1 r.2.2 r.2.1.2.2.2)
noncomputable def manifest_layer : (Str × Int) → Option (GVal) := fun l =>
 manifest_word l.1 >>= fun w =>
 some (GVal.mk (4 : Int) (0 : Int) [] [w.re, (GVal.mk (1 : Int) l.2 [] [] [])] [([100, 105, 103, 101, 115, 116] : Str), ([115, 105, 122, 101] : Str)])
noncomputable def manifest_row_api_Layer_mdl_l4F (self : ((Int × ((List (Str × Int)) × Int)) × ((Int × (Int × (Str × (List Str)))) × (GVal × (List GVal)))) → Option ((GVal × ((Int × (Int × (Str × (List Str)))) × (List GVal))))) : ((Int × ((List (Str × Int)) × Int)) × ((Int × (Int × (Str × (List Str)))) × (GVal × (List GVal)))) → Option ((GVal × ((Int × (Int × (Str × (List Str)))) × (List GVal)))) := fun ((x11, x9, x10), c, c1, c2) =>
 if (decide (x11 < x10)) then (if ((0 : Int) ≤ x11) then
 if (x11 < (x9.length : Int)) then
 manifest_layer (elt (.pair .str (.int .i64)) x9 x11.toNat) >>= fun l =>
 if (sumOk (c2.length + [l.re].length) 80) then
 self (((IntKind.wrap .i64 (x11 + (1 : Int))), (x9, x10)), (c, (c1.re, (c2 ++ [l.re])))) else none else none else none) else
 some (c1.re, (c, c2))
noncomputable def manifest_row_api_Layer_mdl_l4 : ((Int × ((List (Str × Int)) × Int)) × ((Int × (Int × (Str × (List Str)))) × (GVal × (List GVal)))) → Option ((GVal × ((Int × (Int × (Str × (List Str)))) × (List GVal)))) := fixO (B := fun _ => (GVal × ((Int × (Int × (Str × (List Str)))) × (List GVal)))) manifest_row_api_Layer_mdl_l4F
theorem manifest_row_api_Layer_mdl_l4_eq (q : ((Int × ((List (Str × Int)) × Int)) × ((Int × (Int × (Str × (List Str)))) × (GVal × (List GVal))))) : manifest_row_api_Layer_mdl_l4 q = manifest_row_api_Layer_mdl_l4F manifest_row_api_Layer_mdl_l4 q := fixO_eq (B := fun _ => (GVal × ((Int × (Int × (Str × (List Str)))) × (List GVal)))) (fun ((x11, x9, x10), c, c1, c2) => (.ite (.ite (.ite (.bind (.const _) fun _ => (.ite (.app _) (.const _))) (.const _)) (.const _)) (.const _))) q
noncomputable def manifest_row_api_Layer_mdl : (List (Str × Int)) → Option (GVal) := fun l =>
 manifest_row_api_Layer_mdl_l4 (((0 : Int), (l, (l.length : Int))), (((3 : Int), ((0 : Int), ([], []))), ((GVal.mk (0 : Int) (0 : Int) [] [] []), []))) >>= fun r =>
 some (GVal.mk r.2.1.1 r.2.1.2.1 r.2.1.2.2.1 r.2.2 r.2.1.2.2.2)
noncomputable def manifest_value : (Bool × (Str × ((List (Str × Int)) × (List Str)))) → Option (GVal) := fun m =>
 if m.1 then (manifest_row_string_5l4 m.2.2.2 >>= fun s =>
 manifest_word ([105, 110, 100, 101, 120] : Str) >>= fun w =>
 some (GVal.mk (4 : Int) (0 : Int) [] [s.re, w.re] [([107, 105, 100, 115] : Str), ([107, 105, 110, 100] : Str)])) else
 manifest_word m.2.1 >>= fun w =>
 manifest_word ([105, 109, 97, 103, 101] : Str) >>= fun w1 =>
 manifest_row_api_Layer_mdl m.2.2.1 >>= fun m1 =>
 some (GVal.mk (4 : Int) (0 : Int) [] [w.re, w1.re, m1.re] [([99, 111, 110, 102, 105, 103] : Str), ([107, 105, 110, 100] : Str), ([108, 97, 121, 101, 114, 115] : Str)])
noncomputable def manifest_Print : (Bool × (Str × ((List (Str × Int)) × (List Str)))) → Option ((Str × Int)) := fun m =>
 manifest_Right m >>= fun r =>
 if (!r) then some ([], (1 : Int)) else
 manifest_value m >>= fun v =>
 text_Print v.re >>= fun p =>
 some p
noncomputable def manifest_Blobs_l7F (self : ((Int × ((List (Str × Int)) × Int)) × (List Str)) → Option ((List Str))) : ((Int × ((List (Str × Int)) × Int)) × (List Str)) → Option ((List Str)) := fun ((x19, x17, x18), c) =>
 if (decide (x19 < x18)) then (if ((0 : Int) ≤ x19) then
 if (x19 < (x17.length : Int)) then
 slices_Contains_string (c, (elt (.pair .str (.int .i64)) x17 x19.toNat).1) >>= fun s =>
 if (!s) then (if (sumOk (c.length + [(elt (.pair .str (.int .i64)) x17 x19.toNat).1].length) 16) then
 self (((IntKind.wrap .i64 (x19 + (1 : Int))), (x17, x18)), (c ++ [(elt (.pair .str (.int .i64)) x17 x19.toNat).1])) else none) else
 self (((IntKind.wrap .i64 (x19 + (1 : Int))), (x17, x18)), c) else none else none) else
 some c
noncomputable def manifest_Blobs_l7 : ((Int × ((List (Str × Int)) × Int)) × (List Str)) → Option ((List Str)) := fixO (B := fun _ => (List Str)) manifest_Blobs_l7F
theorem manifest_Blobs_l7_eq (q : ((Int × ((List (Str × Int)) × Int)) × (List Str))) : manifest_Blobs_l7 q = manifest_Blobs_l7F manifest_Blobs_l7 q := fixO_eq (B := fun _ => (List Str)) (fun ((x19, x17, x18), c) => (.ite (.ite (.ite (.bind (.const _) fun _ => (.ite (.ite (.app _) (.const _)) (.app _))) (.const _)) (.const _)) (.const _))) q
noncomputable def manifest_Blobs : (Bool × (Str × ((List (Str × Int)) × (List Str)))) → Option ((List Str)) := fun m =>
 if m.1 then some [] else
 manifest_Right m >>= fun r =>
 if (!r) then some [] else
 manifest_Blobs_l7 (((0 : Int), (m.2.2.1, (m.2.2.1.length : Int))), [m.2.1]) >>= fun r1 =>
 some r1
noncomputable def digest_Sum_l5F (self : (Str × Int) → Option ((Int × Str))) : (Str × Int) → Option ((Int × Str)) := fun (s, many) =>
 if ((Int.tmod (s.length : Int) (64 : Int)) != (56 : Int)) then (if ((s.length + ([0] : Str).length) ≤ 9223372036854775807) then
 self ((s ++ ([0] : Str)), many) else none) else
 some (many, s)
noncomputable def digest_Sum_l5 : (Str × Int) → Option ((Int × Str)) := fixO (B := fun _ => (Int × Str)) digest_Sum_l5F
theorem digest_Sum_l5_eq (q : (Str × Int)) : digest_Sum_l5 q = digest_Sum_l5F digest_Sum_l5 q := fixO_eq (B := fun _ => (Int × Str)) (fun (s, many) => (.ite (.ite (.app _) (.const _)) (.const _))) q
noncomputable def digest_Sum_l10F (self : (Int × (Int × Str)) → Option (Str)) : (Int × (Int × Str)) → Option (Str) := fun (i, many, s) =>
 if (decide (i ≥ (0 : Int))) then (if ((0 : Int) ≤ (IntKind.wrap .i64 ((8 : Int) * i))) then
 if ((s.length + (bytesStr [(IntKind.wrap .u8 (ishr .u64 many (IntKind.wrap .i64 ((8 : Int) * i))))]).length) ≤ 9223372036854775807) then
 self ((IntKind.wrap .i64 (i - (1 : Int))), (many, (s ++ (bytesStr [(IntKind.wrap .u8 (ishr .u64 many (IntKind.wrap .i64 ((8 : Int) * i))))])))) else none else none) else
 some s
noncomputable def digest_Sum_l10 : (Int × (Int × Str)) → Option (Str) := fixO (B := fun _ => Str) digest_Sum_l10F
theorem digest_Sum_l10_eq (q : (Int × (Int × Str))) : digest_Sum_l10 q = digest_Sum_l10F digest_Sum_l10 q := fixO_eq (B := fun _ => Str) (fun (i, many, s) => (.ite (.ite (.ite (.app _) (.const _)) (.const _)) (.const _))) q
noncomputable def digest_begins : Unit → Option ((Int × (Int × (Int × (Int × (Int × (Int × (Int × Int)))))))) := fun _ =>
 some ((1779033703 : Int), ((3144134277 : Int), ((1013904242 : Int), ((2773480762 : Int), ((1359893119 : Int), ((2600822924 : Int), ((528734635 : Int), (1541459225 : Int))))))))
noncomputable def digest_big : Str → Option (Int) := fun s =>
 if ((0 : Int) < (s.length : Int)) then
 if ((1 : Int) < (s.length : Int)) then
 if ((2 : Int) < (s.length : Int)) then
 if ((3 : Int) < (s.length : Int)) then
 some (ior .u32 (ior .u32 (ior .u32 (ishl .u32 (IntKind.wrap .u32 (bt s (0 : Int))) (24 : Int)) (ishl .u32 (IntKind.wrap .u32 (bt s (1 : Int))) (16 : Int))) (ishl .u32 (IntKind.wrap .u32 (bt s (2 : Int))) (8 : Int))) (IntKind.wrap .u32 (bt s (3 : Int)))) else none else none else none else none
noncomputable def bits_RotateLeft32 : (Int × Int) → Option (Int) := fun (x1, k) =>
 if ((0 : Int) ≤ (IntKind.wrap .u64 ((32 : Int) - (iand .u64 (IntKind.wrap .u64 k) (31 : Int))))) then
 some (ior .u32 (ishl .u32 x1 (iand .u64 (IntKind.wrap .u64 k) (31 : Int))) (ishr .u32 x1 (IntKind.wrap .u64 ((32 : Int) - (iand .u64 (IntKind.wrap .u64 k) (31 : Int)))))) else none
noncomputable def digest_mixed : (Int × (Int × (Int × (Int × Bool)))) → Option (Int) := fun (x1, a, b, c, moved) =>
 bits_RotateLeft32 (x1, (IntKind.wrap .i64 ((0 : Int) - c))) >>= fun b1 =>
 if moved then (if ((0 : Int) ≤ c) then
 bits_RotateLeft32 (x1, (IntKind.wrap .i64 ((0 : Int) - a))) >>= fun b2 =>
 bits_RotateLeft32 (x1, (IntKind.wrap .i64 ((0 : Int) - b))) >>= fun b3 =>
 some (ixor .u32 (ixor .u32 b2 b3) (ishr .u32 x1 c)) else none) else
 bits_RotateLeft32 (x1, (IntKind.wrap .i64 ((0 : Int) - a))) >>= fun b2 =>
 bits_RotateLeft32 (x1, (IntKind.wrap .i64 ((0 : Int) - b))) >>= fun b3 =>
 some (ixor .u32 (ixor .u32 b2 b3) b1)
noncomputable def digest_over_l4F (self : ((Int × Str) × ((List Int) × ((List Int) × (List Int)))) → Option (((List Int) × ((List Int) × (List Int))))) : ((Int × Str) × ((List Int) × ((List Int) × (List Int)))) → Option (((List Int) × ((List Int) × (List Int)))) := fun ((x14, s), c, c1, c2) =>
 if (decide (x14 < (64 : Int))) then (if (decide (x14 < (16 : Int))) then (if ((0 : Int) ≤ (IntKind.wrap .i64 ((4 : Int) * x14))) then
 if ((IntKind.wrap .i64 ((4 : Int) * x14)) ≤ (s.length : Int)) then
 if ((s.length : Int) ≤ (s.length : Int)) then
 digest_big (List.drop (IntKind.wrap .i64 ((4 : Int) * x14)).toNat (List.take (s.length : Int).toNat s)) >>= fun b =>
 if ((0 : Int) ≤ x14) then
 if (x14 < (64 : Int)) then
 if (x14.toNat < c.length) then
 self (((IntKind.wrap .i64 (x14 + (1 : Int))), s), ((List.set c x14.toNat b), (c1, c2))) else none else none else none else none else none else none) else
 if ((0 : Int) ≤ (IntKind.wrap .i64 (x14 - (2 : Int)))) then
 if ((IntKind.wrap .i64 (x14 - (2 : Int))) < (64 : Int)) then
 if ((IntKind.wrap .i64 (x14 - (2 : Int))).toNat < c.length) then
 digest_mixed ((elt (.int .u32) c (IntKind.wrap .i64 (x14 - (2 : Int))).toNat), ((17 : Int), ((19 : Int), ((10 : Int), true)))) >>= fun m =>
 if ((0 : Int) ≤ (IntKind.wrap .i64 (x14 - (7 : Int)))) then
 if ((IntKind.wrap .i64 (x14 - (7 : Int))) < (64 : Int)) then
 if ((IntKind.wrap .i64 (x14 - (7 : Int))).toNat < c.length) then
 if ((0 : Int) ≤ (IntKind.wrap .i64 (x14 - (15 : Int)))) then
 if ((IntKind.wrap .i64 (x14 - (15 : Int))) < (64 : Int)) then
 if ((IntKind.wrap .i64 (x14 - (15 : Int))).toNat < c.length) then
 digest_mixed ((elt (.int .u32) c (IntKind.wrap .i64 (x14 - (15 : Int))).toNat), ((7 : Int), ((18 : Int), ((3 : Int), true)))) >>= fun m1 =>
 if ((0 : Int) ≤ (IntKind.wrap .i64 (x14 - (16 : Int)))) then
 if ((IntKind.wrap .i64 (x14 - (16 : Int))) < (64 : Int)) then
 if ((IntKind.wrap .i64 (x14 - (16 : Int))).toNat < c.length) then
 if ((0 : Int) ≤ x14) then
 if (x14 < (64 : Int)) then
 if (x14.toNat < c.length) then
 self (((IntKind.wrap .i64 (x14 + (1 : Int))), s), ((List.set c x14.toNat (IntKind.wrap .u32 ((IntKind.wrap .u32 ((IntKind.wrap .u32 (m + (elt (.int .u32) c (IntKind.wrap .i64 (x14 - (7 : Int))).toNat))) + m1)) + (elt (.int .u32) c (IntKind.wrap .i64 (x14 - (16 : Int))).toNat)))), (c1, c2))) else none else none else none else none else none else none else none else none else none else none else none else none else none else none else none) else
 some (c, (c1, c2))
noncomputable def digest_over_l4 : ((Int × Str) × ((List Int) × ((List Int) × (List Int)))) → Option (((List Int) × ((List Int) × (List Int)))) := fixO (B := fun _ => ((List Int) × ((List Int) × (List Int)))) digest_over_l4F
theorem digest_over_l4_eq (q : ((Int × Str) × ((List Int) × ((List Int) × (List Int))))) : digest_over_l4 q = digest_over_l4F digest_over_l4 q := fixO_eq (B := fun _ => ((List Int) × ((List Int) × (List Int)))) (fun ((x14, s), c, c1, c2) => (.ite (.ite (.ite (.ite (.ite (.bind (.const _) fun _ => (.ite (.ite (.ite (.app _) (.const _)) (.const _)) (.const _))) (.const _)) (.const _)) (.const _)) (.ite (.ite (.ite (.bind (.const _) fun _ => (.ite (.ite (.ite (.ite (.ite (.ite (.bind (.const _) fun _ => (.ite (.ite (.ite (.ite (.ite (.ite (.app _) (.const _)) (.const _)) (.const _)) (.const _)) (.const _)) (.const _))) (.const _)) (.const _)) (.const _)) (.const _)) (.const _)) (.const _))) (.const _)) (.const _)) (.const _))) (.const _))) q
noncomputable def digest_over_l15F (self : (Int × ((List Int) × ((List Int) × ((List Int) × (List Int))))) → Option (((List Int) × ((List Int) × (List Int))))) : (Int × ((List Int) × ((List Int) × ((List Int) × (List Int))))) → Option (((List Int) × ((List Int) × (List Int)))) := fun (x51, c, c1, c2, c3) =>
 if (decide (x51 < (64 : Int))) then (if (0 < c.length) then
 if (4 < c.length) then
 if (7 < c.length) then
 digest_mixed ((elt (.int .u32) c 4), ((6 : Int), ((11 : Int), ((25 : Int), false)))) >>= fun m =>
 if (5 < c.length) then
 if (6 < c.length) then
 if ((0 : Int) ≤ x51) then
 if (x51 < (64 : Int)) then
 if (x51 < (keysTab.length : Int)) then
 if ((0 : Int) ≤ x51) then
 if (x51 < (64 : Int)) then
 if (x51.toNat < c1.length) then
 digest_mixed ((elt (.int .u32) c 0), ((2 : Int), ((13 : Int), ((22 : Int), false)))) >>= fun m1 =>
 if (1 < c.length) then
 if (2 < c.length) then
 if (1 < c.length) then
 if (2 < c.length) then
 if (1 < c.length) then
 if (2 < c.length) then
 if (3 < c.length) then
 if (5 < c.length) then
 if (6 < c.length) then
 if (c.length = 8) then
 self ((IntKind.wrap .i64 (x51 + (1 : Int))), ([(IntKind.wrap .u32 ((IntKind.wrap .u32 ((IntKind.wrap .u32 ((IntKind.wrap .u32 ((IntKind.wrap .u32 ((elt (.int .u32) c 7) + m)) + (ixor .u32 (iand .u32 (elt (.int .u32) c 4) (elt (.int .u32) c 5)) (iand .u32 (ixor .u32 (4294967295 : Int) (elt (.int .u32) c 4)) (elt (.int .u32) c 6))))) + (elt (.int .u32) keysTab x51.toNat))) + (elt (.int .u32) c1 x51.toNat))) + (IntKind.wrap .u32 (m1 + (ixor .u32 (ixor .u32 (iand .u32 (elt (.int .u32) c 0) (elt (.int .u32) c 1)) (iand .u32 (elt (.int .u32) c 0) (elt (.int .u32) c 2))) (iand .u32 (elt (.int .u32) c 1) (elt (.int .u32) c 2))))))), (elt (.int .u32) c 0), (elt (.int .u32) c 1), (elt (.int .u32) c 2), (IntKind.wrap .u32 ((elt (.int .u32) c 3) + (IntKind.wrap .u32 ((IntKind.wrap .u32 ((IntKind.wrap .u32 ((IntKind.wrap .u32 ((elt (.int .u32) c 7) + m)) + (ixor .u32 (iand .u32 (elt (.int .u32) c 4) (elt (.int .u32) c 5)) (iand .u32 (ixor .u32 (4294967295 : Int) (elt (.int .u32) c 4)) (elt (.int .u32) c 6))))) + (elt (.int .u32) keysTab x51.toNat))) + (elt (.int .u32) c1 x51.toNat))))), (elt (.int .u32) c 4), (elt (.int .u32) c 5), (elt (.int .u32) c 6)], (c1, (c2, c3)))) else none else none else none else none else none else none else none else none else none else none else none else none else none else none else none else none else none else none else none else none else none) else
 some (c2, (c, c3))
noncomputable def digest_over_l15 : (Int × ((List Int) × ((List Int) × ((List Int) × (List Int))))) → Option (((List Int) × ((List Int) × (List Int)))) := fixO (B := fun _ => ((List Int) × ((List Int) × (List Int)))) digest_over_l15F
theorem digest_over_l15_eq (q : (Int × ((List Int) × ((List Int) × ((List Int) × (List Int)))))) : digest_over_l15 q = digest_over_l15F digest_over_l15 q := fixO_eq (B := fun _ => ((List Int) × ((List Int) × (List Int)))) (fun (x51, c, c1, c2, c3) => (.ite (.ite (.ite (.ite (.bind (.const _) fun _ => (.ite (.ite (.ite (.ite (.ite (.ite (.ite (.ite (.bind (.const _) fun _ => (.ite (.ite (.ite (.ite (.ite (.ite (.ite (.ite (.ite (.ite (.app _) (.const _)) (.const _)) (.const _)) (.const _)) (.const _)) (.const _)) (.const _)) (.const _)) (.const _)) (.const _))) (.const _)) (.const _)) (.const _)) (.const _)) (.const _)) (.const _)) (.const _)) (.const _))) (.const _)) (.const _)) (.const _)) (.const _))) q
noncomputable def digest_over_l25F (self : (Int × ((List Int) × ((List Int) × (List Int)))) → Option (((List Int) × (List Int)))) : (Int × ((List Int) × ((List Int) × (List Int)))) → Option (((List Int) × (List Int))) := fun (x119, c, c1, c2) =>
 if (decide (x119 < (8 : Int))) then (if ((0 : Int) ≤ x119) then
 if (x119 < (8 : Int)) then
 if (x119.toNat < c.length) then
 if ((0 : Int) ≤ x119) then
 if (x119 < (8 : Int)) then
 if (x119.toNat < c1.length) then
 if ((0 : Int) ≤ x119) then
 if (x119 < (8 : Int)) then
 if (x119.toNat < c.length) then
 self ((IntKind.wrap .i64 (x119 + (1 : Int))), ((List.set c x119.toNat (IntKind.wrap .u32 ((elt (.int .u32) c x119.toNat) + (elt (.int .u32) c1 x119.toNat)))), (c1, c2))) else none else none else none else none else none else none else none else none else none) else
 some (c2, c)
noncomputable def digest_over_l25 : (Int × ((List Int) × ((List Int) × (List Int)))) → Option (((List Int) × (List Int))) := fixO (B := fun _ => ((List Int) × (List Int))) digest_over_l25F
theorem digest_over_l25_eq (q : (Int × ((List Int) × ((List Int) × (List Int))))) : digest_over_l25 q = digest_over_l25F digest_over_l25 q := fixO_eq (B := fun _ => ((List Int) × (List Int))) (fun (x119, c, c1, c2) => (.ite (.ite (.ite (.ite (.ite (.ite (.ite (.ite (.ite (.ite (.app _) (.const _)) (.const _)) (.const _)) (.const _)) (.const _)) (.const _)) (.const _)) (.const _)) (.const _)) (.const _))) q
noncomputable def digest_over : ((Int × (Int × (Int × (Int × (Int × (Int × (Int × Int))))))) × Str) → Option ((Int × (Int × (Int × (Int × (Int × (Int × (Int × Int)))))))) := fun (h, s) =>
 digest_over_l4 (((0 : Int), s), ((List.replicate 64 (0 : Int)), ([h.1, h.2.1, h.2.2.1, h.2.2.2.1, h.2.2.2.2.1, h.2.2.2.2.2.1, h.2.2.2.2.2.2.1, h.2.2.2.2.2.2.2], [0, 0, 0, 0, 0, 0, 0, 0]))) >>= fun r =>
 if (8 ≤ r.2.1.length) then
 digest_over_l15 ((0 : Int), ([(elt (.int .u32) r.2.1 0), (elt (.int .u32) r.2.1 1), (elt (.int .u32) r.2.1 2), (elt (.int .u32) r.2.1 3), (elt (.int .u32) r.2.1 4), (elt (.int .u32) r.2.1 5), (elt (.int .u32) r.2.1 6), (elt (.int .u32) r.2.1 7)], r)) >>= fun r1 =>
 digest_over_l25 ((0 : Int), r1) >>= fun r2 =>
 if (8 ≤ r2.2.length) then
 if (r2.1.length = 8) then
 some ((elt (.int .u32) r2.2 0), ((elt (.int .u32) r2.2 1), ((elt (.int .u32) r2.2 2), ((elt (.int .u32) r2.2 3), ((elt (.int .u32) r2.2 4), ((elt (.int .u32) r2.2 5), ((elt (.int .u32) r2.2 6), (elt (.int .u32) r2.2 7)))))))) else none else none else none
noncomputable def digest_Sum_l16F (self : (Str × (List Int)) → Option ((List Int))) : (Str × (List Int)) → Option ((List Int)) := fun (s, c) =>
 if (s != []) then (if (8 ≤ c.length) then
 digest_over (((elt (.int .u32) c 0), ((elt (.int .u32) c 1), ((elt (.int .u32) c 2), ((elt (.int .u32) c 3), ((elt (.int .u32) c 4), ((elt (.int .u32) c 5), ((elt (.int .u32) c 6), (elt (.int .u32) c 7)))))))), s) >>= fun o =>
 if (c.length = 8) then
 if ((64 : Int) ≤ (s.length : Int)) then
 if ((s.length : Int) ≤ (s.length : Int)) then
 self ((List.drop 64 (List.take (s.length : Int).toNat s)), [o.1, o.2.1, o.2.2.1, o.2.2.2.1, o.2.2.2.2.1, o.2.2.2.2.2.1, o.2.2.2.2.2.2.1, o.2.2.2.2.2.2.2]) else none else none else none else none) else
 some c
noncomputable def digest_Sum_l16 : (Str × (List Int)) → Option ((List Int)) := fixO (B := fun _ => (List Int)) digest_Sum_l16F
theorem digest_Sum_l16_eq (q : (Str × (List Int))) : digest_Sum_l16 q = digest_Sum_l16F digest_Sum_l16 q := fixO_eq (B := fun _ => (List Int)) (fun (s, c) => (.ite (.ite (.bind (.const _) fun _ => (.ite (.ite (.ite (.app _) (.const _)) (.const _)) (.const _))) (.const _)) (.const _))) q
noncomputable def digest_Sum_l23F (self : ((Int × (Int × (Int × (Int × (Int × (Int × (Int × (Int × Int)))))))) × (List Int)) → Option ((List Int))) : ((Int × (Int × (Int × (Int × (Int × (Int × (Int × (Int × Int)))))))) × (List Int)) → Option ((List Int)) := fun ((x46, x45), c) =>
 if (decide (x46 < (8 : Int))) then (if (decide (x46 = (7 : Int))) then (if (sumOk (c.length + [(IntKind.wrap .u8 (ishr .u32 x45.2.2.2.2.2.2.2 (24 : Int))), (IntKind.wrap .u8 (ishr .u32 x45.2.2.2.2.2.2.2 (16 : Int))), (IntKind.wrap .u8 (ishr .u32 x45.2.2.2.2.2.2.2 (8 : Int))), (IntKind.wrap .u8 x45.2.2.2.2.2.2.2)].length) 1) then
 self (((IntKind.wrap .i64 ((7 : Int) + (1 : Int))), x45), (c ++ [(IntKind.wrap .u8 (ishr .u32 x45.2.2.2.2.2.2.2 (24 : Int))), (IntKind.wrap .u8 (ishr .u32 x45.2.2.2.2.2.2.2 (16 : Int))), (IntKind.wrap .u8 (ishr .u32 x45.2.2.2.2.2.2.2 (8 : Int))), (IntKind.wrap .u8 x45.2.2.2.2.2.2.2)])) else none) else
 if (decide (x46 = (6 : Int))) then (if (sumOk (c.length + [(IntKind.wrap .u8 (ishr .u32 x45.2.2.2.2.2.2.1 (24 : Int))), (IntKind.wrap .u8 (ishr .u32 x45.2.2.2.2.2.2.1 (16 : Int))), (IntKind.wrap .u8 (ishr .u32 x45.2.2.2.2.2.2.1 (8 : Int))), (IntKind.wrap .u8 x45.2.2.2.2.2.2.1)].length) 1) then
 self (((IntKind.wrap .i64 ((6 : Int) + (1 : Int))), x45), (c ++ [(IntKind.wrap .u8 (ishr .u32 x45.2.2.2.2.2.2.1 (24 : Int))), (IntKind.wrap .u8 (ishr .u32 x45.2.2.2.2.2.2.1 (16 : Int))), (IntKind.wrap .u8 (ishr .u32 x45.2.2.2.2.2.2.1 (8 : Int))), (IntKind.wrap .u8 x45.2.2.2.2.2.2.1)])) else none) else
 if (decide (x46 = (5 : Int))) then (if (sumOk (c.length + [(IntKind.wrap .u8 (ishr .u32 x45.2.2.2.2.2.1 (24 : Int))), (IntKind.wrap .u8 (ishr .u32 x45.2.2.2.2.2.1 (16 : Int))), (IntKind.wrap .u8 (ishr .u32 x45.2.2.2.2.2.1 (8 : Int))), (IntKind.wrap .u8 x45.2.2.2.2.2.1)].length) 1) then
 self (((IntKind.wrap .i64 ((5 : Int) + (1 : Int))), x45), (c ++ [(IntKind.wrap .u8 (ishr .u32 x45.2.2.2.2.2.1 (24 : Int))), (IntKind.wrap .u8 (ishr .u32 x45.2.2.2.2.2.1 (16 : Int))), (IntKind.wrap .u8 (ishr .u32 x45.2.2.2.2.2.1 (8 : Int))), (IntKind.wrap .u8 x45.2.2.2.2.2.1)])) else none) else
 if (decide (x46 = (4 : Int))) then (if (sumOk (c.length + [(IntKind.wrap .u8 (ishr .u32 x45.2.2.2.2.1 (24 : Int))), (IntKind.wrap .u8 (ishr .u32 x45.2.2.2.2.1 (16 : Int))), (IntKind.wrap .u8 (ishr .u32 x45.2.2.2.2.1 (8 : Int))), (IntKind.wrap .u8 x45.2.2.2.2.1)].length) 1) then
 self (((IntKind.wrap .i64 ((4 : Int) + (1 : Int))), x45), (c ++ [(IntKind.wrap .u8 (ishr .u32 x45.2.2.2.2.1 (24 : Int))), (IntKind.wrap .u8 (ishr .u32 x45.2.2.2.2.1 (16 : Int))), (IntKind.wrap .u8 (ishr .u32 x45.2.2.2.2.1 (8 : Int))), (IntKind.wrap .u8 x45.2.2.2.2.1)])) else none) else
 if (decide (x46 = (3 : Int))) then (if (sumOk (c.length + [(IntKind.wrap .u8 (ishr .u32 x45.2.2.2.1 (24 : Int))), (IntKind.wrap .u8 (ishr .u32 x45.2.2.2.1 (16 : Int))), (IntKind.wrap .u8 (ishr .u32 x45.2.2.2.1 (8 : Int))), (IntKind.wrap .u8 x45.2.2.2.1)].length) 1) then
 self (((IntKind.wrap .i64 ((3 : Int) + (1 : Int))), x45), (c ++ [(IntKind.wrap .u8 (ishr .u32 x45.2.2.2.1 (24 : Int))), (IntKind.wrap .u8 (ishr .u32 x45.2.2.2.1 (16 : Int))), (IntKind.wrap .u8 (ishr .u32 x45.2.2.2.1 (8 : Int))), (IntKind.wrap .u8 x45.2.2.2.1)])) else none) else
 if (decide (x46 = (2 : Int))) then (if (sumOk (c.length + [(IntKind.wrap .u8 (ishr .u32 x45.2.2.1 (24 : Int))), (IntKind.wrap .u8 (ishr .u32 x45.2.2.1 (16 : Int))), (IntKind.wrap .u8 (ishr .u32 x45.2.2.1 (8 : Int))), (IntKind.wrap .u8 x45.2.2.1)].length) 1) then
 self (((IntKind.wrap .i64 ((2 : Int) + (1 : Int))), x45), (c ++ [(IntKind.wrap .u8 (ishr .u32 x45.2.2.1 (24 : Int))), (IntKind.wrap .u8 (ishr .u32 x45.2.2.1 (16 : Int))), (IntKind.wrap .u8 (ishr .u32 x45.2.2.1 (8 : Int))), (IntKind.wrap .u8 x45.2.2.1)])) else none) else
 if (decide (x46 = (1 : Int))) then (if (sumOk (c.length + [(IntKind.wrap .u8 (ishr .u32 x45.2.1 (24 : Int))), (IntKind.wrap .u8 (ishr .u32 x45.2.1 (16 : Int))), (IntKind.wrap .u8 (ishr .u32 x45.2.1 (8 : Int))), (IntKind.wrap .u8 x45.2.1)].length) 1) then
 self (((IntKind.wrap .i64 ((1 : Int) + (1 : Int))), x45), (c ++ [(IntKind.wrap .u8 (ishr .u32 x45.2.1 (24 : Int))), (IntKind.wrap .u8 (ishr .u32 x45.2.1 (16 : Int))), (IntKind.wrap .u8 (ishr .u32 x45.2.1 (8 : Int))), (IntKind.wrap .u8 x45.2.1)])) else none) else
 if (decide (x46 = (0 : Int))) then (if (sumOk (c.length + [(IntKind.wrap .u8 (ishr .u32 x45.1 (24 : Int))), (IntKind.wrap .u8 (ishr .u32 x45.1 (16 : Int))), (IntKind.wrap .u8 (ishr .u32 x45.1 (8 : Int))), (IntKind.wrap .u8 x45.1)].length) 1) then
 self (((IntKind.wrap .i64 ((0 : Int) + (1 : Int))), x45), (c ++ [(IntKind.wrap .u8 (ishr .u32 x45.1 (24 : Int))), (IntKind.wrap .u8 (ishr .u32 x45.1 (16 : Int))), (IntKind.wrap .u8 (ishr .u32 x45.1 (8 : Int))), (IntKind.wrap .u8 x45.1)])) else none) else
 none) else
 some c
noncomputable def digest_Sum_l23 : ((Int × (Int × (Int × (Int × (Int × (Int × (Int × (Int × Int)))))))) × (List Int)) → Option ((List Int)) := fixO (B := fun _ => (List Int)) digest_Sum_l23F
theorem digest_Sum_l23_eq (q : ((Int × (Int × (Int × (Int × (Int × (Int × (Int × (Int × Int)))))))) × (List Int))) : digest_Sum_l23 q = digest_Sum_l23F digest_Sum_l23 q := fixO_eq (B := fun _ => (List Int)) (fun ((x46, x45), c) => (.ite (.ite (.ite (.app _) (.const _)) (.ite (.ite (.app _) (.const _)) (.ite (.ite (.app _) (.const _)) (.ite (.ite (.app _) (.const _)) (.ite (.ite (.app _) (.const _)) (.ite (.ite (.app _) (.const _)) (.ite (.ite (.app _) (.const _)) (.ite (.ite (.app _) (.const _)) (.const _))))))))) (.const _))) q
noncomputable def digest_Sum : (List Str) → Option (Str) := fun parts =>
 lib_Join (parts, []) >>= fun j =>
 if ((j.length + ([128] : Str).length) ≤ 9223372036854775807) then
 digest_Sum_l5 ((j ++ ([128] : Str)), (IntKind.wrap .u64 ((IntKind.wrap .u64 (j.length : Int)) * (8 : Int)))) >>= fun r =>
 digest_Sum_l10 ((7 : Int), r) >>= fun r1 =>
 digest_begins () >>= fun b =>
 digest_Sum_l16 (r1, [b.1, b.2.1, b.2.2.1, b.2.2.2.1, b.2.2.2.2.1, b.2.2.2.2.2.1, b.2.2.2.2.2.2.1, b.2.2.2.2.2.2.2]) >>= fun r2 =>
 if (8 ≤ r2.length) then
 digest_Sum_l23 (((0 : Int), ((elt (.int .u32) r2 0), ((elt (.int .u32) r2 1), ((elt (.int .u32) r2 2), ((elt (.int .u32) r2 3), ((elt (.int .u32) r2 4), ((elt (.int .u32) r2 5), ((elt (.int .u32) r2 6), (elt (.int .u32) r2 7))))))))), []) >>= fun r3 =>
 some (bytesStr r3) else none else none
noncomputable def digest_Of : Str → Option (Str) := fun s =>
 digest_Sum [s] >>= fun s1 =>
 lib_Hex s1 >>= fun h =>
 if ((([115, 104, 97, 50, 53, 54, 58] : Str).length + h.length) ≤ 9223372036854775807) then
 some (([115, 104, 97, 50, 53, 54, 58] : Str) ++ h) else none
noncomputable def manifest_read_l8F (self : ((Int × ((List GVal) × Int)) × ((Bool × Str) × ((Bool × Str) × (GVal × (List (Str × Int)))))) → Option (((Bool × Str) × ((Bool × Str) × (GVal × (List (Str × Int))))))) : ((Int × ((List GVal) × Int)) × ((Bool × Str) × ((Bool × Str) × (GVal × (List (Str × Int)))))) → Option (((Bool × Str) × ((Bool × Str) × (GVal × (List (Str × Int)))))) := fun ((x49, x47, x48), c, c1, c2, c3) =>
 if (decide (x49 < x48)) then (if ((0 : Int) ≤ x49) then
 if (x49 < (x47.length : Int)) then
 text_Get ((elt .val x47 x49.toNat).re, (([100, 105, 103, 101, 115, 116] : Str), (2 : Int))) >>= fun g =>
 text_Get ((elt .val x47 x49.toNat).re, (([115, 105, 122, 101] : Str), (1 : Int))) >>= fun g1 =>
 if (sumOk (c3.length + [(g.1.s, g1.1.n)].length) 24) then
 self (((IntKind.wrap .i64 (x49 + (1 : Int))), (x47, x48)), (c, (c1, (c2.re, (c3 ++ [(g.1.s, g1.1.n)]))))) else none else none else none) else
 some (c, (c1, (c2.re, c3)))
noncomputable def manifest_read_l8 : ((Int × ((List GVal) × Int)) × ((Bool × Str) × ((Bool × Str) × (GVal × (List (Str × Int)))))) → Option (((Bool × Str) × ((Bool × Str) × (GVal × (List (Str × Int)))))) := fixO (B := fun _ => ((Bool × Str) × ((Bool × Str) × (GVal × (List (Str × Int)))))) manifest_read_l8F
theorem manifest_read_l8_eq (q : ((Int × ((List GVal) × Int)) × ((Bool × Str) × ((Bool × Str) × (GVal × (List (Str × Int))))))) : manifest_read_l8 q = manifest_read_l8F manifest_read_l8 q := fixO_eq (B := fun _ => ((Bool × Str) × ((Bool × Str) × (GVal × (List (Str × Int)))))) (fun ((x49, x47, x48), c, c1, c2, c3) => (.ite (.ite (.ite (.bind (.const _) fun _ => (.bind (.const _) fun _ => (.ite (.app _) (.const _)))) (.const _)) (.const _)) (.const _))) q
noncomputable def manifest_read_l17F (self : ((Int × ((List GVal) × Int)) × ((Bool × Str) × ((Bool × Str) × ((List (Str × Int)) × (List Str))))) → Option (((Bool × Str) × ((Bool × Str) × ((List (Str × Int)) × (List Str)))))) : ((Int × ((List GVal) × Int)) × ((Bool × Str) × ((Bool × Str) × ((List (Str × Int)) × (List Str))))) → Option (((Bool × Str) × ((Bool × Str) × ((List (Str × Int)) × (List Str))))) := fun ((x77, x75, x76), c, c1, c2, c3) =>
 if (decide (x77 < x76)) then (if ((0 : Int) ≤ x77) then
 if (x77 < (x75.length : Int)) then
 if (sumOk (c3.length + [(elt .val x75 x77.toNat).s].length) 16) then
 self (((IntKind.wrap .i64 (x77 + (1 : Int))), (x75, x76)), (c, (c1, (c2, (c3 ++ [(elt .val x75 x77.toNat).s]))))) else none else none else none) else
 some (c1, (c, (c2, c3)))
noncomputable def manifest_read_l17 : ((Int × ((List GVal) × Int)) × ((Bool × Str) × ((Bool × Str) × ((List (Str × Int)) × (List Str))))) → Option (((Bool × Str) × ((Bool × Str) × ((List (Str × Int)) × (List Str))))) := fixO (B := fun _ => ((Bool × Str) × ((Bool × Str) × ((List (Str × Int)) × (List Str))))) manifest_read_l17F
theorem manifest_read_l17_eq (q : ((Int × ((List GVal) × Int)) × ((Bool × Str) × ((Bool × Str) × ((List (Str × Int)) × (List Str)))))) : manifest_read_l17 q = manifest_read_l17F manifest_read_l17 q := fixO_eq (B := fun _ => ((Bool × Str) × ((Bool × Str) × ((List (Str × Int)) × (List Str))))) (fun ((x77, x75, x76), c, c1, c2, c3) => (.ite (.ite (.ite (.ite (.app _) (.const _)) (.const _)) (.const _)) (.const _))) q
noncomputable def manifest_read : GVal → Option ((Bool × (Str × ((List (Str × Int)) × (List Str))))) := fun v =>
 text_Get (v.re, (([107, 105, 110, 100] : Str), (2 : Int))) >>= fun g =>
 text_Get (v.re, (([99, 111, 110, 102, 105, 103] : Str), (2 : Int))) >>= fun g1 =>
 text_Get (v.re, (([108, 97, 121, 101, 114, 115] : Str), (3 : Int))) >>= fun g2 =>
 text_Get (v.re, (([107, 105, 100, 115] : Str), (3 : Int))) >>= fun g3 =>
 manifest_read_l8 (((0 : Int), (g2.1.items, (g2.1.items.length : Int))), (((g.1.s == ([105, 110, 100, 101, 120] : Str)), g1.1.s), ((false, []), (g3.1.re, [])))) >>= fun r =>
 manifest_read_l17 (((0 : Int), (r.2.2.1.items, (r.2.2.1.items.length : Int))), (r.1, (r.2.1, (r.2.2.2, [])))) >>= fun r1 =>
 some (r1.2.1.1, (r1.2.1.2, r1.2.2))
noncomputable def manifest_Parse : Str → Option (((Bool × (Str × ((List (Str × Int)) × (List Str)))) × Int)) := fun s =>
 text_Parse s >>= fun p =>
 if (p.2 != (0 : Int)) then some ((false, ([], ([], []))), p.2) else
 manifest_read p.1.re >>= fun r =>
 manifest_Print r >>= fun p1 =>
 if (p1.2 != (0 : Int)) then some ((false, ([], ([], []))), (8 : Int)) else
 if (p1.1 != s) then some ((false, ([], ([], []))), (8 : Int)) else
 some (r, (0 : Int))
end Go.Plain
