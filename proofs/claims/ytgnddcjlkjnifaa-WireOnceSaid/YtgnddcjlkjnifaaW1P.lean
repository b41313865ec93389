import Derived.Test.YtgnddcjlkjnifaaBMLib
import Derived.Test.YtgnddcjlkjnifaaTKeys
namespace Go.Plain
open Go.AM
set_option linter.unusedVariables false
noncomputable abbrev slices_Clone_api_Msg : (List (Int × (Int × (Str × Int)))) → Option ((List (Int × (Int × (Str × Int))))) := lib_Clone
noncomputable abbrev slices_Delete_api_Msg : ((Int × Int) × (List (Int × (Int × (Str × Int))))) → Option ((List (Int × (Int × (Str × Int))))) := lib_Delete
noncomputable def wire_Right_1_jfu : ((Int × (Int × (Str × Int))) × ((List (Int × (Int × (Str × Int)))) × (Int × Int))) → Option ((Bool × ((List (Int × (Int × (Str × Int)))) × (Int × Int)))) := fun (m, c) =>
 if (decide (m.1 < (1 : Int))) then some (true, c) else
 if (decide (m.1 > c.2.1)) then some (true, c) else
 if (decide (m.2.1 < (0 : Int))) then some (true, c) else
 if (decide (m.2.1 ≥ (64 : Int))) then some (true, c) else
 if (decide ((m.2.2.1.length : Int) > (4096 : Int))) then some (true, c) else
 if (decide (m.2.2.2 < (0 : Int))) then some (true, c) else
 some ((decide (m.2.2.2 > c.2.2)), c)
noncomputable def slices_IndexFunc_api_Msg_fp2_l3F (self : ((Int × ((List (Int × (Int × (Str × Int)))) × Int)) × ((List (Int × (Int × (Str × Int)))) × (Int × Int))) → Option ((Int × ((List (Int × (Int × (Str × Int)))) × (Int × Int))) ⊕ ((List (Int × (Int × (Str × Int)))) × (Int × Int)))) : ((Int × ((List (Int × (Int × (Str × Int)))) × Int)) × ((List (Int × (Int × (Str × Int)))) × (Int × Int))) → Option ((Int × ((List (Int × (Int × (Str × Int)))) × (Int × Int))) ⊕ ((List (Int × (Int × (Str × Int)))) × (Int × Int))) := fun ((x8, s, x7), c) =>
 if (decide (x8 < x7)) then (if ((0 : Int) ≤ x8) then
 if (x8 < (s.length : Int)) then
 wire_Right_1_jfu ((elt (.pair (.int .i64) (.pair (.int .i64) (.pair .str (.int .i64)))) s x8.toNat), c) >>= fun j =>
 if j.1 then some (.inl (x8, j.2)) else
 self (((IntKind.wrap .i64 (x8 + (1 : Int))), (s, x7)), j.2) else none else none) else
 some (.inr c)
noncomputable def slices_IndexFunc_api_Msg_fp2_l3 : ((Int × ((List (Int × (Int × (Str × Int)))) × Int)) × ((List (Int × (Int × (Str × Int)))) × (Int × Int))) → Option ((Int × ((List (Int × (Int × (Str × Int)))) × (Int × Int))) ⊕ ((List (Int × (Int × (Str × Int)))) × (Int × Int))) := fixO (B := fun _ => (Int × ((List (Int × (Int × (Str × Int)))) × (Int × Int))) ⊕ ((List (Int × (Int × (Str × Int)))) × (Int × Int))) slices_IndexFunc_api_Msg_fp2_l3F
theorem slices_IndexFunc_api_Msg_fp2_l3_eq (q : ((Int × ((List (Int × (Int × (Str × Int)))) × Int)) × ((List (Int × (Int × (Str × Int)))) × (Int × Int)))) : slices_IndexFunc_api_Msg_fp2_l3 q = slices_IndexFunc_api_Msg_fp2_l3F slices_IndexFunc_api_Msg_fp2_l3 q := fixO_eq (B := fun _ => (Int × ((List (Int × (Int × (Str × Int)))) × (Int × Int))) ⊕ ((List (Int × (Int × (Str × Int)))) × (Int × Int))) (fun ((x8, s, x7), c) => (.ite (.ite (.ite (.bind (.const _) fun _ => (.ite (.const _) (.app _))) (.const _)) (.const _)) (.const _))) q
noncomputable def slices_IndexFunc_api_Msg_fp2 : ((List (Int × (Int × (Str × Int)))) × ((List (Int × (Int × (Str × Int)))) × (Int × Int))) → Option ((Int × ((List (Int × (Int × (Str × Int)))) × (Int × Int)))) := fun (s, c) =>
 slices_IndexFunc_api_Msg_fp2_l3 (((0 : Int), (s, (s.length : Int))), c) >>= fun r =>
 Sum.elim (fun r1 => some r1) (fun r1 => some ((-1 : Int), r1)) r
noncomputable def slices_ContainsFunc_api_Msg_fp2 : ((List (Int × (Int × (Str × Int)))) × ((List (Int × (Int × (Str × Int)))) × (Int × Int))) → Option ((Bool × ((List (Int × (Int × (Str × Int)))) × (Int × Int)))) := fun (s, c) =>
 slices_IndexFunc_api_Msg_fp2 (s, c) >>= fun m =>
 some ((decide (m.1 ≥ (0 : Int))), m.2)
noncomputable def wire_Right : ((List (Int × (Int × (Str × Int)))) × (Int × Int)) → Option (Bool) := fun n =>
 if (decide ((n.1.length : Int) ≤ (32 : Int))) then (if (decide (n.2.1 ≥ (0 : Int))) then (if (decide (n.2.1 ≤ (1099511627776 : Int))) then (if (decide (n.2.2 ≥ (0 : Int))) then (if (decide (n.2.2 ≤ (1099511627776 : Int))) then (slices_ContainsFunc_api_Msg_fp2 (n.1, n) >>= fun m =>
 some (!m.1)) else
 some false) else
 some false) else
 some false) else
 some false) else
 some false
noncomputable def slices_Clip_api_Msg : (List (Int × (Int × (Str × Int)))) → Option (((List (Int × (Int × (Str × Int)))) × Bool)) := fun s =>
 if ((s.length : Int) ≤ (s.length : Int)) then
 if ((s.length : Int) ≤ (s.length : Int)) then
 some ((List.take (s.length : Int).toNat s), (decide ((s.length : Int) = (s.length : Int)))) else none else none
noncomputable def wire_Send : (((List (Int × (Int × (Str × Int)))) × (Int × Int)) × (Int × Str)) → Option ((((List (Int × (Int × (Str × Int)))) × (Int × Int)) × (Int × Int))) := fun (n, to, body) =>
 wire_Right n >>= fun r =>
 if (!r) then some (([], ((0 : Int), (0 : Int))), ((0 : Int), (1 : Int))) else
 if (decide (to < (0 : Int))) then some (([], ((0 : Int), (0 : Int))), ((0 : Int), (1 : Int))) else
 if (decide (to ≥ (64 : Int))) then some (([], ((0 : Int), (0 : Int))), ((0 : Int), (1 : Int))) else
 if (decide ((body.length : Int) > (4096 : Int))) then some (([], ((0 : Int), (0 : Int))), ((0 : Int), (2 : Int))) else
 if ((n.1.length : Int) == (32 : Int)) then some (([], ((0 : Int), (0 : Int))), ((0 : Int), (13 : Int))) else
 if (n.2.1 == (1099511627776 : Int)) then some (([], ((0 : Int), (0 : Int))), ((0 : Int), (13 : Int))) else
 slices_Clip_api_Msg n.1 >>= fun m =>
 if (m.2 = true) then
 if ((m.1.length = 0) ∨ (0 < [((IntKind.wrap .i64 (n.2.1 + (1 : Int))), (to, (body, n.2.2)))].length)) then
 if (sumOk (m.1.length + [((IntKind.wrap .i64 (n.2.1 + (1 : Int))), (to, (body, n.2.2)))].length) 40) then
 some (((m.1 ++ [((IntKind.wrap .i64 (n.2.1 + (1 : Int))), (to, (body, n.2.2)))]), ((IntKind.wrap .i64 (n.2.1 + (1 : Int))), n.2.2)), ((IntKind.wrap .i64 (n.2.1 + (1 : Int))), (0 : Int))) else none else none else none
noncomputable def law13_WireOnce_l6F (self : (((List Int) × (Int × ((List Str) × Int))) × ((List (Int × Int)) × (((List (Int × (Int × (Str × Int)))) × (Int × Int)) × (List (Int × Str))))) → Option (((List Int) × ((List (Int × Int)) × (((List (Int × (Int × (Str × Int)))) × (Int × Int)) × (List (Int × Str))))) ⊕ Bool)) : (((List Int) × (Int × ((List Str) × Int))) × ((List (Int × Int)) × (((List (Int × (Int × (Str × Int)))) × (Int × Int)) × (List (Int × Str))))) → Option (((List Int) × ((List (Int × Int)) × (((List (Int × (Int × (Str × Int)))) × (Int × Int)) × (List (Int × Str))))) ⊕ Bool) := fun ((acts, x33, x31, x32), c, c1, c2) =>
 if (decide (x33 < x32)) then (if ((0 : Int) ≤ x33) then
 if (x33 < (x31.length : Int)) then
 if (decide (x33 ≥ (20 : Int))) then some (.inl (acts, (c, (c1, c2)))) else
 if ((0 : Int) ≤ (min ((elt .str x31 x33.toNat).length : Int) (100 : Int))) then
 if ((min ((elt .str x31 x33.toNat).length : Int) (100 : Int)) ≤ ((elt .str x31 x33.toNat).length : Int)) then
 wire_Send (c1, ((Int.tmod x33 (64 : Int)), (List.take (min ((elt .str x31 x33.toNat).length : Int) (100 : Int)).toNat (elt .str x31 x33.toNat)))) >>= fun s =>
 if (s.2.2 != (0 : Int)) then some (.inr false) else
 if ((mget (.int .i64) (.int .i64) s.2.1 c) != (0 : Int)) then some (.inr false) else
 self ((acts, ((IntKind.wrap .i64 (x33 + (1 : Int))), (x31, x32))), ((mset (.int .i64) (.int .i64) s.2.1 (1 : Int) c), (s.1, (mset (.int .i64) .str s.2.1 (List.take (min ((elt .str x31 x33.toNat).length : Int) (100 : Int)).toNat (elt .str x31 x33.toNat)) c2)))) else none else none else none else none) else
 some (.inl (acts, (c, (c1, c2))))
noncomputable def law13_WireOnce_l6 : (((List Int) × (Int × ((List Str) × Int))) × ((List (Int × Int)) × (((List (Int × (Int × (Str × Int)))) × (Int × Int)) × (List (Int × Str))))) → Option (((List Int) × ((List (Int × Int)) × (((List (Int × (Int × (Str × Int)))) × (Int × Int)) × (List (Int × Str))))) ⊕ Bool) := fixO (B := fun _ => ((List Int) × ((List (Int × Int)) × (((List (Int × (Int × (Str × Int)))) × (Int × Int)) × (List (Int × Str))))) ⊕ Bool) law13_WireOnce_l6F
theorem law13_WireOnce_l6_eq (q : (((List Int) × (Int × ((List Str) × Int))) × ((List (Int × Int)) × (((List (Int × (Int × (Str × Int)))) × (Int × Int)) × (List (Int × Str)))))) : law13_WireOnce_l6 q = law13_WireOnce_l6F law13_WireOnce_l6 q := fixO_eq (B := fun _ => ((List Int) × ((List (Int × Int)) × (((List (Int × (Int × (Str × Int)))) × (Int × Int)) × (List (Int × Str))))) ⊕ Bool) (fun ((acts, x33, x31, x32), c, c1, c2) => (.ite (.ite (.ite (.ite (.const _) (.ite (.ite (.bind (.const _) fun _ => (.ite (.const _) (.ite (.const _) (.app _)))) (.const _)) (.const _))) (.const _)) (.const _)) (.const _))) q
noncomputable def wire_there : (((List (Int × (Int × (Str × Int)))) × (Int × Int)) × Int) → Option (Int) := fun (n, place) =>
 wire_Right n >>= fun r =>
 if (!r) then some (1 : Int) else
 if (decide (place < (0 : Int))) then some (9 : Int) else
 if (decide (place ≥ (n.1.length : Int))) then some (9 : Int) else
 some (0 : Int)
noncomputable def wire_without_api_Msg : ((List (Int × (Int × (Str × Int)))) × Int) → Option ((List (Int × (Int × (Str × Int))))) := fun (l, at1) =>
 slices_Clone_api_Msg l >>= fun m =>
 slices_Delete_api_Msg ((at1, (IntKind.wrap .i64 (at1 + (1 : Int)))), m) >>= fun m1 =>
 some m1
noncomputable def wire_Take : (((List (Int × (Int × (Str × Int)))) × (Int × Int)) × Int) → Option ((((List (Int × (Int × (Str × Int)))) × (Int × Int)) × ((Int × (Int × (Str × Int))) × Int))) := fun (n, place) =>
 wire_there (n, place) >>= fun t =>
 if (t != (0 : Int)) then some (([], ((0 : Int), (0 : Int))), (((0 : Int), ((0 : Int), ([], (0 : Int)))), t)) else
 if ((0 : Int) ≤ place) then
 if (place < (n.1.length : Int)) then
 wire_without_api_Msg (n.1, place) >>= fun m =>
 some ((m, n.2), ((elt (.pair (.int .i64) (.pair (.int .i64) (.pair .str (.int .i64)))) n.1 place.toNat), (0 : Int))) else none else none
noncomputable def wire_Twice : (((List (Int × (Int × (Str × Int)))) × (Int × Int)) × Int) → Option ((((List (Int × (Int × (Str × Int)))) × (Int × Int)) × Int)) := fun (n, place) =>
 wire_there (n, place) >>= fun t =>
 if (t != (0 : Int)) then some (([], ((0 : Int), (0 : Int))), t) else
 if ((n.1.length : Int) == (32 : Int)) then some (([], ((0 : Int), (0 : Int))), (13 : Int)) else
 slices_Clip_api_Msg n.1 >>= fun m =>
 if ((0 : Int) ≤ place) then
 if (place < (n.1.length : Int)) then
 if (m.2 = true) then
 if ((m.1.length = 0) ∨ (0 < [(elt (.pair (.int .i64) (.pair (.int .i64) (.pair .str (.int .i64)))) n.1 place.toNat)].length)) then
 if (sumOk (m.1.length + [(elt (.pair (.int .i64) (.pair (.int .i64) (.pair .str (.int .i64)))) n.1 place.toNat)].length) 40) then
 some (((m.1 ++ [(elt (.pair (.int .i64) (.pair (.int .i64) (.pair .str (.int .i64)))) n.1 place.toNat)]), n.2), (0 : Int)) else none else none else none else none else none
noncomputable def wire_Lose : (((List (Int × (Int × (Str × Int)))) × (Int × Int)) × Int) → Option ((((List (Int × (Int × (Str × Int)))) × (Int × Int)) × Int)) := fun (n, place) =>
 wire_Take (n, place) >>= fun t =>
 some (t.1, t.2.2)
noncomputable def law13_WireOnce_l20F (self : ((Int × ((List Int) × Int)) × ((List (Int × Int)) × (((List (Int × (Int × (Str × Int)))) × (Int × Int)) × (List (Int × Str))))) → Option (((List (Int × Int)) × ((List (Int × (Int × (Str × Int)))) × (Int × Int))) ⊕ Bool)) : ((Int × ((List Int) × Int)) × ((List (Int × Int)) × (((List (Int × (Int × (Str × Int)))) × (Int × Int)) × (List (Int × Str))))) → Option (((List (Int × Int)) × ((List (Int × (Int × (Str × Int)))) × (Int × Int))) ⊕ Bool) := fun ((x71, x69, x70), c, c1, c2) =>
 if (decide (x71 < x70)) then (if ((0 : Int) ≤ x71) then
 if (x71 < (x69.length : Int)) then
 if (decide (x71 ≥ (60 : Int))) then some (.inl (c, c1)) else
 if ((c1.1.length : Int) == (0 : Int)) then some (.inl (c, c1)) else
 if ((c1.1.length : Int) ≠ (0 : Int)) then
 if ((c1.1.length : Int) ≠ (0 : Int)) then
 if ((0 : Int) ≤ (Int.tmod (IntKind.wrap .i64 ((Int.tmod (IntKind.wrap .i64 (Int.tdiv (elt (.int .i64) x69 x71.toNat) (3 : Int))) (c1.1.length : Int)) + (c1.1.length : Int))) (c1.1.length : Int))) then
 if ((Int.tmod (IntKind.wrap .i64 ((Int.tmod (IntKind.wrap .i64 (Int.tdiv (elt (.int .i64) x69 x71.toNat) (3 : Int))) (c1.1.length : Int)) + (c1.1.length : Int))) (c1.1.length : Int)) < (c1.1.length : Int)) then
 if ((Int.tmod (IntKind.wrap .i64 ((Int.tmod (elt (.int .i64) x69 x71.toNat) (3 : Int)) + (3 : Int))) (3 : Int)) == (0 : Int)) then (wire_Take (c1, (Int.tmod (IntKind.wrap .i64 ((Int.tmod (IntKind.wrap .i64 (Int.tdiv (elt (.int .i64) x69 x71.toNat) (3 : Int))) (c1.1.length : Int)) + (c1.1.length : Int))) (c1.1.length : Int))) >>= fun t =>
 if (t.2.2 != (0 : Int)) then some (.inr false) else
 if (t.2.1.2.2.1 != (mget (.int .i64) .str t.2.1.1 c2)) then some (.inr false) else
 if (t.2.1.1 != (elt (.pair (.int .i64) (.pair (.int .i64) (.pair .str (.int .i64)))) c1.1 (Int.tmod (IntKind.wrap .i64 ((Int.tmod (IntKind.wrap .i64 (Int.tdiv (elt (.int .i64) x69 x71.toNat) (3 : Int))) (c1.1.length : Int)) + (c1.1.length : Int))) (c1.1.length : Int)).toNat).1) then some (.inr false) else
 if (decide ((mget (.int .i64) (.int .i64) (elt (.pair (.int .i64) (.pair (.int .i64) (.pair .str (.int .i64)))) c1.1 (Int.tmod (IntKind.wrap .i64 ((Int.tmod (IntKind.wrap .i64 (Int.tdiv (elt (.int .i64) x69 x71.toNat) (3 : Int))) (c1.1.length : Int)) + (c1.1.length : Int))) (c1.1.length : Int)).toNat).1 c) < (1 : Int))) then some (.inr false) else
 if (t.2.1.2.1 != (Int.tmod (IntKind.wrap .i64 ((elt (.pair (.int .i64) (.pair (.int .i64) (.pair .str (.int .i64)))) c1.1 (Int.tmod (IntKind.wrap .i64 ((Int.tmod (IntKind.wrap .i64 (Int.tdiv (elt (.int .i64) x69 x71.toNat) (3 : Int))) (c1.1.length : Int)) + (c1.1.length : Int))) (c1.1.length : Int)).toNat).1 - (1 : Int))) (64 : Int))) then some (.inr false) else
 self (((IntKind.wrap .i64 (x71 + (1 : Int))), (x69, x70)), ((mset (.int .i64) (.int .i64) (elt (.pair (.int .i64) (.pair (.int .i64) (.pair .str (.int .i64)))) c1.1 (Int.tmod (IntKind.wrap .i64 ((Int.tmod (IntKind.wrap .i64 (Int.tdiv (elt (.int .i64) x69 x71.toNat) (3 : Int))) (c1.1.length : Int)) + (c1.1.length : Int))) (c1.1.length : Int)).toNat).1 (IntKind.wrap .i64 ((mget (.int .i64) (.int .i64) (elt (.pair (.int .i64) (.pair (.int .i64) (.pair .str (.int .i64)))) c1.1 (Int.tmod (IntKind.wrap .i64 ((Int.tmod (IntKind.wrap .i64 (Int.tdiv (elt (.int .i64) x69 x71.toNat) (3 : Int))) (c1.1.length : Int)) + (c1.1.length : Int))) (c1.1.length : Int)).toNat).1 c) - (1 : Int))) c), (t.1, c2)))) else
 if ((Int.tmod (IntKind.wrap .i64 ((Int.tmod (elt (.int .i64) x69 x71.toNat) (3 : Int)) + (3 : Int))) (3 : Int)) == (1 : Int)) then (wire_Twice (c1, (Int.tmod (IntKind.wrap .i64 ((Int.tmod (IntKind.wrap .i64 (Int.tdiv (elt (.int .i64) x69 x71.toNat) (3 : Int))) (c1.1.length : Int)) + (c1.1.length : Int))) (c1.1.length : Int))) >>= fun t =>
 if (t.2 == (0 : Int)) then (self (((IntKind.wrap .i64 (x71 + (1 : Int))), (x69, x70)), ((mset (.int .i64) (.int .i64) (elt (.pair (.int .i64) (.pair (.int .i64) (.pair .str (.int .i64)))) c1.1 (Int.tmod (IntKind.wrap .i64 ((Int.tmod (IntKind.wrap .i64 (Int.tdiv (elt (.int .i64) x69 x71.toNat) (3 : Int))) (c1.1.length : Int)) + (c1.1.length : Int))) (c1.1.length : Int)).toNat).1 (IntKind.wrap .i64 ((mget (.int .i64) (.int .i64) (elt (.pair (.int .i64) (.pair (.int .i64) (.pair .str (.int .i64)))) c1.1 (Int.tmod (IntKind.wrap .i64 ((Int.tmod (IntKind.wrap .i64 (Int.tdiv (elt (.int .i64) x69 x71.toNat) (3 : Int))) (c1.1.length : Int)) + (c1.1.length : Int))) (c1.1.length : Int)).toNat).1 c) + (1 : Int))) c), (t.1, c2)))) else
 self (((IntKind.wrap .i64 (x71 + (1 : Int))), (x69, x70)), (c, (c1, c2)))) else
 wire_Lose (c1, (Int.tmod (IntKind.wrap .i64 ((Int.tmod (IntKind.wrap .i64 (Int.tdiv (elt (.int .i64) x69 x71.toNat) (3 : Int))) (c1.1.length : Int)) + (c1.1.length : Int))) (c1.1.length : Int))) >>= fun l =>
 if (l.2 != (0 : Int)) then some (.inr false) else
 self (((IntKind.wrap .i64 (x71 + (1 : Int))), (x69, x70)), ((mset (.int .i64) (.int .i64) (elt (.pair (.int .i64) (.pair (.int .i64) (.pair .str (.int .i64)))) c1.1 (Int.tmod (IntKind.wrap .i64 ((Int.tmod (IntKind.wrap .i64 (Int.tdiv (elt (.int .i64) x69 x71.toNat) (3 : Int))) (c1.1.length : Int)) + (c1.1.length : Int))) (c1.1.length : Int)).toNat).1 (IntKind.wrap .i64 ((mget (.int .i64) (.int .i64) (elt (.pair (.int .i64) (.pair (.int .i64) (.pair .str (.int .i64)))) c1.1 (Int.tmod (IntKind.wrap .i64 ((Int.tmod (IntKind.wrap .i64 (Int.tdiv (elt (.int .i64) x69 x71.toNat) (3 : Int))) (c1.1.length : Int)) + (c1.1.length : Int))) (c1.1.length : Int)).toNat).1 c) - (1 : Int))) c), (l.1, c2))) else none else none else none else none else none else none) else
 some (.inl (c, c1))
noncomputable def law13_WireOnce_l20 : ((Int × ((List Int) × Int)) × ((List (Int × Int)) × (((List (Int × (Int × (Str × Int)))) × (Int × Int)) × (List (Int × Str))))) → Option (((List (Int × Int)) × ((List (Int × (Int × (Str × Int)))) × (Int × Int))) ⊕ Bool) := fixO (B := fun _ => ((List (Int × Int)) × ((List (Int × (Int × (Str × Int)))) × (Int × Int))) ⊕ Bool) law13_WireOnce_l20F
theorem law13_WireOnce_l20_eq (q : ((Int × ((List Int) × Int)) × ((List (Int × Int)) × (((List (Int × (Int × (Str × Int)))) × (Int × Int)) × (List (Int × Str)))))) : law13_WireOnce_l20 q = law13_WireOnce_l20F law13_WireOnce_l20 q := fixO_eq (B := fun _ => ((List (Int × Int)) × ((List (Int × (Int × (Str × Int)))) × (Int × Int))) ⊕ Bool) (fun ((x71, x69, x70), c, c1, c2) => (.ite (.ite (.ite (.ite (.const _) (.ite (.const _) (.ite (.ite (.ite (.ite (.ite (.bind (.const _) fun _ => (.ite (.const _) (.ite (.const _) (.ite (.const _) (.ite (.const _) (.ite (.const _) (.app _))))))) (.ite (.bind (.const _) fun _ => (.ite (.app _) (.app _))) (.bind (.const _) fun _ => (.ite (.const _) (.app _))))) (.const _)) (.const _)) (.const _)) (.const _)))) (.const _)) (.const _)) (.const _))) q
noncomputable def law13_WireOnce_l48F (self : ((Int × ((List (Int × (Int × (Str × Int)))) × Int)) × ((List (Int × Int)) × ((List (Int × (Int × (Str × Int)))) × (Int × Int)))) → Option ((((List (Int × (Int × (Str × Int)))) × (Int × Int)) × (List (Int × Int))))) : ((Int × ((List (Int × (Int × (Str × Int)))) × Int)) × ((List (Int × Int)) × ((List (Int × (Int × (Str × Int)))) × (Int × Int)))) → Option ((((List (Int × (Int × (Str × Int)))) × (Int × Int)) × (List (Int × Int)))) := fun ((x182, x180, x181), c, c1) =>
 if (decide (x182 < x181)) then (if ((0 : Int) ≤ x182) then
 if (x182 < (x180.length : Int)) then
 self (((IntKind.wrap .i64 (x182 + (1 : Int))), (x180, x181)), ((mset (.int .i64) (.int .i64) (elt (.pair (.int .i64) (.pair (.int .i64) (.pair .str (.int .i64)))) x180 x182.toNat).1 (IntKind.wrap .i64 ((mget (.int .i64) (.int .i64) (elt (.pair (.int .i64) (.pair (.int .i64) (.pair .str (.int .i64)))) x180 x182.toNat).1 c) - (1 : Int))) c), c1)) else none else none) else
 some (c1, c)
noncomputable def law13_WireOnce_l48 : ((Int × ((List (Int × (Int × (Str × Int)))) × Int)) × ((List (Int × Int)) × ((List (Int × (Int × (Str × Int)))) × (Int × Int)))) → Option ((((List (Int × (Int × (Str × Int)))) × (Int × Int)) × (List (Int × Int)))) := fixO (B := fun _ => (((List (Int × (Int × (Str × Int)))) × (Int × Int)) × (List (Int × Int)))) law13_WireOnce_l48F
theorem law13_WireOnce_l48_eq (q : ((Int × ((List (Int × (Int × (Str × Int)))) × Int)) × ((List (Int × Int)) × ((List (Int × (Int × (Str × Int)))) × (Int × Int))))) : law13_WireOnce_l48 q = law13_WireOnce_l48F law13_WireOnce_l48 q := fixO_eq (B := fun _ => (((List (Int × (Int × (Str × Int)))) × (Int × Int)) × (List (Int × Int)))) (fun ((x182, x180, x181), c, c1) => (.ite (.ite (.ite (.app _) (.const _)) (.const _)) (.const _))) q
noncomputable def law13_WireOnce_l55F (self : ((List ((Bool × Int) × Int)) × ((List (Int × (Int × (Str × Int)))) × (Int × Int))) → Option (((List (Int × (Int × (Str × Int)))) × (Int × Int)) ⊕ Bool)) : ((List ((Bool × Int) × Int)) × ((List (Int × (Int × (Str × Int)))) × (Int × Int))) → Option (((List (Int × (Int × (Str × Int)))) × (Int × Int)) ⊕ Bool) := fun (c, c1) =>
 if (List.isEmpty (List.tail c)) then some (.inl c1) else
 agree (List.tail c).length fun j =>
 if ((itGet (.int .i64) (.int .i64) c j).2 != (0 : Int)) then some (.inr false) else
 self ((itPut (.int .i64) (.int .i64) c j), c1)
noncomputable def law13_WireOnce_l55 : ((List ((Bool × Int) × Int)) × ((List (Int × (Int × (Str × Int)))) × (Int × Int))) → Option (((List (Int × (Int × (Str × Int)))) × (Int × Int)) ⊕ Bool) := fixO (B := fun _ => ((List (Int × (Int × (Str × Int)))) × (Int × Int)) ⊕ Bool) law13_WireOnce_l55F
theorem law13_WireOnce_l55_eq (q : ((List ((Bool × Int) × Int)) × ((List (Int × (Int × (Str × Int)))) × (Int × Int)))) : law13_WireOnce_l55 q = law13_WireOnce_l55F law13_WireOnce_l55 q := fixO_eq (B := fun _ => ((List (Int × (Int × (Str × Int)))) × (Int × Int)) ⊕ Bool) (fun (c, c1) => (.ite (.const _) (agree_cont _ fun _ => (.ite (.const _) (.app _))))) q
noncomputable def law13_alive : Unit → Option (Bool) := fun _ =>
 wire_Send (([], ((0 : Int), (0 : Int))), ((3 : Int), ([120] : Str))) >>= fun s =>
 wire_Take (s.1, (0 : Int)) >>= fun t =>
 if (s.2.2 == (0 : Int)) then (if (t.2.2 == (0 : Int)) then (if (s.2.1 == (1 : Int)) then some ((t.2.1.1 == (1 : Int)) && ((t.2.1.2.1 == (3 : Int)) && ((t.2.1.2.2.1 == ([120] : Str)) && ((t.2.1.2.2.2 == (0 : Int)) && true)))) else
 some false) else
 some false) else
 some false
noncomputable def law13_WireOnce : ((List Str) × (List Int)) → Option (Bool) := fun (bodies, acts) =>
 law13_WireOnce_l6 ((acts, ((0 : Int), (bodies, (bodies.length : Int)))), ([], (([], ((0 : Int), (0 : Int))), []))) >>= fun r =>
 Sum.elim (fun r1 => law13_WireOnce_l20 (((0 : Int), (r1.1, (r1.1.length : Int))), r1.2) >>= fun r2 =>
 Sum.elim (fun r3 => law13_WireOnce_l48 (((0 : Int), (r3.2.1, (r3.2.1.length : Int))), r3) >>= fun r4 =>
 law13_WireOnce_l55 ((itNew (.int .i64) (.int .i64) r4.2), r4.1) >>= fun r5 =>
 Sum.elim (fun r6 => law13_alive () >>= fun a =>
 if a then (wire_Right r6 >>= fun r7 =>
 some r7) else
 some false) (fun r6 => some r6) r5) (fun r3 => some r3) r2) (fun r1 => some r1) r
end Go.Plain
