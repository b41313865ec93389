import Derived.Test.YtichcpbhondhhaaGreatDoorBMLib
namespace Go.Plain
open Go.AM
set_option linter.unusedVariables false
noncomputable def text_reader_next_evh : Str → Option (Str ⊕ (Int × Str)) := fun c =>
 if (c == []) then some (.inl c) else
 if ((0 : Int) < (c.length : Int)) then
 some (.inr ((bt c (0 : Int)), c)) else none
noncomputable def text_reader_take_yxh : (Int × Str) → Option (Str ⊕ Str) := fun (c, c1) =>
 text_reader_next_evh c1 >>= fun e =>
 Sum.elim (fun e1 => some (.inl e1)) (fun e1 => if (e1.1 != c) then some (.inl e1.2) else
 if ((1 : Int) ≤ (e1.2.length : Int)) then
 if ((e1.2.length : Int) ≤ (e1.2.length : Int)) then
 some (.inr (List.drop 1 (List.take (e1.2.length : Int).toNat e1.2))) else none else none) e
noncomputable def text_reader_word_evh : Str → Option (Str ⊕ (Str × Str)) := fun c =>
 text_reader_take_yxh ((34 : Int), c) >>= fun y =>
 Sum.elim (fun y1 => some (.inl y1)) (fun y1 => lib_Cut (y1, ([34] : Str)) >>= fun c1 =>
 if (!c1.2.2) then some (.inl y1) else
 some (.inr (c1.1, c1.2.1))) y
noncomputable def text_reader_whole_evh_l9F (self : ((Int × (Str × Int)) × (Str × (GVal × GVal))) → Option ((Str × (GVal × GVal)))) : ((Int × (Str × Int)) × (Str × (GVal × GVal))) → Option ((Str × (GVal × GVal))) := fun ((x53, w, x52), c, c1, c2) =>
 if (decide (x53 < x52)) then (if ((0 : Int) ≤ x53) then
 if (x53 < (w.length : Int)) then
 self (((IntKind.wrap .i64 (x53 + (1 : Int))), (w, x52)), (c, ((GVal.mk c1.kind (IntKind.wrap .i64 ((IntKind.wrap .i64 ((10 : Int) * c1.n)) + (IntKind.wrap .i64 (IntKind.wrap .u8 ((bt w x53) - (48 : Int)))))) c1.s c1.items c1.names), c2.re))) else none else none) else
 some (c, (c2.re, c1.re))
noncomputable def text_reader_whole_evh_l9 : ((Int × (Str × Int)) × (Str × (GVal × GVal))) → Option ((Str × (GVal × GVal))) := fixO (B := fun _ => (Str × (GVal × GVal))) text_reader_whole_evh_l9F
theorem text_reader_whole_evh_l9_eq (q : ((Int × (Str × Int)) × (Str × (GVal × GVal)))) : text_reader_whole_evh_l9 q = text_reader_whole_evh_l9F text_reader_whole_evh_l9 q := fixO_eq (B := fun _ => (Str × (GVal × GVal))) (fun ((x53, w, x52), c, c1, c2) => (.ite (.ite (.ite (.app _) (.const _)) (.const _)) (.const _))) q
noncomputable def text_reader_whole_evh : Str → Option (Str ⊕ (GVal × Str)) := fun c =>
 lib_TrimLeft (c, ([48, 49, 50, 51, 52, 53, 54, 55, 56, 57] : Str)) >>= fun t =>
 if ((0 : Int) ≤ (IntKind.wrap .i64 ((c.length : Int) - (t.length : Int)))) then
 if ((IntKind.wrap .i64 ((c.length : Int) - (t.length : Int))) ≤ (c.length : Int)) then
 if ((0 : Int) ≤ (IntKind.wrap .i64 ((c.length : Int) - (t.length : Int)))) then
 if ((IntKind.wrap .i64 ((c.length : Int) - (t.length : Int))) ≤ (c.length : Int)) then
 if ((c.length : Int) ≤ (c.length : Int)) then
 if ((IntKind.wrap .i64 ((c.length : Int) - (t.length : Int))) == (0 : Int)) then some (.inl (List.drop (IntKind.wrap .i64 ((c.length : Int) - (t.length : Int))).toNat (List.take (c.length : Int).toNat c))) else
 if (decide ((IntKind.wrap .i64 ((c.length : Int) - (t.length : Int))) > (13 : Int))) then some (.inl (List.drop (IntKind.wrap .i64 ((c.length : Int) - (t.length : Int))).toNat (List.take (c.length : Int).toNat c))) else
 if (decide ((IntKind.wrap .i64 ((c.length : Int) - (t.length : Int))) > (1 : Int))) then (if ((0 : Int) < ((List.take (IntKind.wrap .i64 ((c.length : Int) - (t.length : Int))).toNat c).length : Int)) then
 if ((bt (List.take (IntKind.wrap .i64 ((c.length : Int) - (t.length : Int))).toNat c) (0 : Int)) == (48 : Int)) then some (.inl (List.drop (IntKind.wrap .i64 ((c.length : Int) - (t.length : Int))).toNat (List.take (c.length : Int).toNat c))) else
 text_reader_whole_evh_l9 (((0 : Int), ((List.take (IntKind.wrap .i64 ((c.length : Int) - (t.length : Int))).toNat c), (IntKind.wrap .i64 ((c.length : Int) - (t.length : Int))))), ((List.drop (IntKind.wrap .i64 ((c.length : Int) - (t.length : Int))).toNat (List.take (c.length : Int).toNat c)), ((GVal.mk (1 : Int) (0 : Int) [] [] []), (GVal.mk (0 : Int) (0 : Int) [] [] [])))) >>= fun r =>
 some (.inr (r.2.2.re, r.1)) else none) else
 text_reader_whole_evh_l9 (((0 : Int), ((List.take (IntKind.wrap .i64 ((c.length : Int) - (t.length : Int))).toNat c), (IntKind.wrap .i64 ((c.length : Int) - (t.length : Int))))), ((List.drop (IntKind.wrap .i64 ((c.length : Int) - (t.length : Int))).toNat (List.take (c.length : Int).toNat c)), ((GVal.mk (1 : Int) (0 : Int) [] [] []), (GVal.mk (0 : Int) (0 : Int) [] [] [])))) >>= fun r =>
 some (.inr (r.2.2.re, r.1)) else none else none else none else none else none
abbrev text_reader_value_eewGA := (Int × Str) ⊕ (((Int × (Int × Str)) × (Int × Int)) × Str) ⊕ ((Int × Int) × (Str × ((Int × (Int × Str)) × (GVal × ((List GVal) × (List Str))))))
abbrev text_reader_value_eewGB : text_reader_value_eewGA → Type
  | (.inl _) => Str ⊕ (GVal × Str)
  | (.inr (.inl _)) => Str ⊕ (GVal × Str)
  | (.inr (.inr _)) => Str ⊕ (Int × (Str × (GVal × ((Int × (Int × Str)) × ((List GVal) × (List Str))))))
noncomputable def text_reader_value_eewF (text_reader_value_eew : (Int × Str) → Option (Str ⊕ (GVal × Str))) (text_reader_items_tkf : (((Int × (Int × Str)) × (Int × Int)) × Str) → Option (Str ⊕ (GVal × Str))) (text_reader_items_tkf_l3 : ((Int × Int) × (Str × ((Int × (Int × Str)) × (GVal × ((List GVal) × (List Str)))))) → Option (Str ⊕ (Int × (Str × (GVal × ((Int × (Int × Str)) × ((List GVal) × (List Str)))))))) : (Int × Str) → Option (Str ⊕ (GVal × Str)) := fun (deep, c) =>
 if (deep == (0 : Int)) then some (.inl c) else
 text_reader_next_evh c >>= fun e =>
 Sum.elim (fun e1 => some (.inl e1)) (fun e1 => if (e1.1 == (34 : Int)) then (text_reader_word_evh e1.2 >>= fun e2 =>
 Sum.elim (fun e3 => some (.inl e3)) (fun e3 => some (.inr ((GVal.mk (2 : Int) (0 : Int) e3.1 [] []), e3.2))) e2) else
 if (e1.1 == (91 : Int)) then (text_reader_items_tkf ((((3 : Int), ((0 : Int), [])), ((93 : Int), deep)), e1.2) >>= fun t =>
 Sum.elim (fun t1 => some (.inl t1)) (fun t1 => some (.inr (t1.1.re, t1.2))) t) else
 if (e1.1 == (123 : Int)) then (text_reader_items_tkf ((((4 : Int), ((0 : Int), [])), ((125 : Int), deep)), e1.2) >>= fun t =>
 Sum.elim (fun t1 => some (.inl t1)) (fun t1 => some (.inr (t1.1.re, t1.2))) t) else
 text_reader_whole_evh e1.2 >>= fun e2 =>
 Sum.elim (fun e3 => some (.inl e3)) (fun e3 => some (.inr (e3.1.re, e3.2))) e2) e
noncomputable def text_reader_items_tkfF (text_reader_value_eew : (Int × Str) → Option (Str ⊕ (GVal × Str))) (text_reader_items_tkf : (((Int × (Int × Str)) × (Int × Int)) × Str) → Option (Str ⊕ (GVal × Str))) (text_reader_items_tkf_l3 : ((Int × Int) × (Str × ((Int × (Int × Str)) × (GVal × ((List GVal) × (List Str)))))) → Option (Str ⊕ (Int × (Str × (GVal × ((Int × (Int × Str)) × ((List GVal) × (List Str)))))))) : (((Int × (Int × Str)) × (Int × Int)) × Str) → Option (Str ⊕ (GVal × Str)) := fun ((v, end1, deep), c) =>
 if ((1 : Int) ≤ (c.length : Int)) then
 if ((c.length : Int) ≤ (c.length : Int)) then
 text_reader_items_tkf_l3 ((deep, end1), ((List.drop 1 (List.take (c.length : Int).toNat c)), (v, ((GVal.mk (0 : Int) (0 : Int) [] [] []), ([], []))))) >>= fun r =>
 Sum.elim (fun r1 => some (.inl r1)) (fun r1 => text_reader_take_yxh (r1.1, r1.2.1) >>= fun y =>
 Sum.elim (fun y1 => some (.inl y1)) (fun y1 => some (.inr ((GVal.mk r1.2.2.2.1.1 r1.2.2.2.1.2.1 r1.2.2.2.1.2.2 r1.2.2.2.2.1 r1.2.2.2.2.2), y1))) y) r else none else none
noncomputable def text_reader_items_tkf_l3F (text_reader_value_eew : (Int × Str) → Option (Str ⊕ (GVal × Str))) (text_reader_items_tkf : (((Int × (Int × Str)) × (Int × Int)) × Str) → Option (Str ⊕ (GVal × Str))) (text_reader_items_tkf_l3 : ((Int × Int) × (Str × ((Int × (Int × Str)) × (GVal × ((List GVal) × (List Str)))))) → Option (Str ⊕ (Int × (Str × (GVal × ((Int × (Int × Str)) × ((List GVal) × (List Str)))))))) : ((Int × Int) × (Str × ((Int × (Int × Str)) × (GVal × ((List GVal) × (List Str)))))) → Option (Str ⊕ (Int × (Str × (GVal × ((Int × (Int × Str)) × ((List GVal) × (List Str))))))) := fun ((deep, end1), c, c1, c2, c3, c4) =>
 text_reader_next_evh c >>= fun e =>
 Sum.elim (fun e1 => some (.inl e1)) (fun e1 => if (e1.1 != end1) then (if (decide ((c3.length : Int) > (0 : Int))) then (text_reader_take_yxh ((44 : Int), e1.2) >>= fun y =>
 Sum.elim (fun y1 => some (.inl y1)) (fun y1 => if (c1.1 == (4 : Int)) then (text_reader_word_evh y1 >>= fun e2 =>
 Sum.elim (fun e3 => some (.inl e3)) (fun e3 => if (sumOk (c4.length + [e3.1].length) 16) then
 text_reader_take_yxh ((58 : Int), e3.2) >>= fun y2 =>
 Sum.elim (fun y3 => some (.inl y3)) (fun y3 => text_reader_value_eew ((IntKind.wrap .i64 (deep - (1 : Int))), y3) >>= fun e4 =>
 Sum.elim (fun e5 => some (.inl e5)) (fun e5 => if (sumOk (c3.length + [e5.1.re].length) 80) then
 if (decide (((c3 ++ [e5.1.re]).length : Int) > (16 : Int))) then some (.inl e5.2) else
 text_reader_items_tkf_l3 ((deep, end1), (e5.2, (c1, (c2.re, ((c3 ++ [e5.1.re]), (c4 ++ [e3.1])))))) else none) e4) y2 else none) e2) else
 text_reader_value_eew ((IntKind.wrap .i64 (deep - (1 : Int))), y1) >>= fun e2 =>
 Sum.elim (fun e3 => some (.inl e3)) (fun e3 => if (sumOk (c3.length + [e3.1.re].length) 80) then
 if (decide (((c3 ++ [e3.1.re]).length : Int) > (16 : Int))) then some (.inl e3.2) else
 text_reader_items_tkf_l3 ((deep, end1), (e3.2, (c1, (c2.re, ((c3 ++ [e3.1.re]), c4))))) else none) e2) y) else
 if (c1.1 == (4 : Int)) then (text_reader_word_evh e1.2 >>= fun e2 =>
 Sum.elim (fun e3 => some (.inl e3)) (fun e3 => if (sumOk (c4.length + [e3.1].length) 16) then
 text_reader_take_yxh ((58 : Int), e3.2) >>= fun y =>
 Sum.elim (fun y1 => some (.inl y1)) (fun y1 => text_reader_value_eew ((IntKind.wrap .i64 (deep - (1 : Int))), y1) >>= fun e4 =>
 Sum.elim (fun e5 => some (.inl e5)) (fun e5 => if (sumOk (c3.length + [e5.1.re].length) 80) then
 if (decide (((c3 ++ [e5.1.re]).length : Int) > (16 : Int))) then some (.inl e5.2) else
 text_reader_items_tkf_l3 ((deep, end1), (e5.2, (c1, (c2.re, ((c3 ++ [e5.1.re]), (c4 ++ [e3.1])))))) else none) e4) y else none) e2) else
 text_reader_value_eew ((IntKind.wrap .i64 (deep - (1 : Int))), e1.2) >>= fun e2 =>
 Sum.elim (fun e3 => some (.inl e3)) (fun e3 => if (sumOk (c3.length + [e3.1.re].length) 80) then
 if (decide (((c3 ++ [e3.1.re]).length : Int) > (16 : Int))) then some (.inl e3.2) else
 text_reader_items_tkf_l3 ((deep, end1), (e3.2, (c1, (c2.re, ((c3 ++ [e3.1.re]), c4))))) else none) e2) else
 some (.inr (end1, (e1.2, (c2.re, (c1, (c3, c4))))))) e
noncomputable def text_reader_value_eewGF (u : ∀ a, Option (text_reader_value_eewGB a)) : ∀ a, Option (text_reader_value_eewGB a)
  | (.inl q) => text_reader_value_eewF (fun q => u (.inl q)) (fun q => u (.inr (.inl q))) (fun q => u (.inr (.inr q))) q
  | (.inr (.inl q)) => text_reader_items_tkfF (fun q => u (.inl q)) (fun q => u (.inr (.inl q))) (fun q => u (.inr (.inr q))) q
  | (.inr (.inr q)) => text_reader_items_tkf_l3F (fun q => u (.inl q)) (fun q => u (.inr (.inl q))) (fun q => u (.inr (.inr q))) q
noncomputable def text_reader_value_eew (q : (Int × Str)) : Option (Str ⊕ (GVal × Str)) := fixO text_reader_value_eewGF (.inl q)
noncomputable def text_reader_items_tkf (q : (((Int × (Int × Str)) × (Int × Int)) × Str)) : Option (Str ⊕ (GVal × Str)) := fixO text_reader_value_eewGF (.inr (.inl q))
noncomputable def text_reader_items_tkf_l3 (q : ((Int × Int) × (Str × ((Int × (Int × Str)) × (GVal × ((List GVal) × (List Str))))))) : Option (Str ⊕ (Int × (Str × (GVal × ((Int × (Int × Str)) × ((List GVal) × (List Str))))))) := fixO text_reader_value_eewGF (.inr (.inr q))
theorem text_reader_value_eewGc : ∀ a, Cont fun u => text_reader_value_eewGF u a
  | (.inl (deep, c)) => by unfold text_reader_value_eewGF text_reader_value_eewF; exact (.ite (.const _) (.bind (.const _) fun _ => (.sum (fun _ => (.const _)) (fun _ => (.ite (.const _) (.ite (.bind (.app _) fun _ => (.const _)) (.ite (.bind (.app _) fun _ => (.const _)) (.const _))))))))
  | (.inr (.inl ((v, end1, deep), c))) => by unfold text_reader_value_eewGF text_reader_items_tkfF; exact (.ite (.ite (.bind (.app _) fun _ => (.const _)) (.const _)) (.const _))
  | (.inr (.inr ((deep, end1), c, c1, c2, c3, c4))) => by unfold text_reader_value_eewGF text_reader_items_tkf_l3F; exact (.bind (.const _) fun _ => (.sum (fun _ => (.const _)) (fun _ => (.ite (.ite (.bind (.const _) fun _ => (.sum (fun _ => (.const _)) (fun _ => (.ite (.bind (.const _) fun _ => (.sum (fun _ => (.const _)) (fun _ => (.ite (.bind (.const _) fun _ => (.sum (fun _ => (.const _)) (fun _ => (.bind (.app _) fun _ => (.sum (fun _ => (.const _)) (fun _ => (.ite (.ite (.const _) (.app _)) (.const _)))))))) (.const _))))) (.bind (.app _) fun _ => (.sum (fun _ => (.const _)) (fun _ => (.ite (.ite (.const _) (.app _)) (.const _))))))))) (.ite (.bind (.const _) fun _ => (.sum (fun _ => (.const _)) (fun _ => (.ite (.bind (.const _) fun _ => (.sum (fun _ => (.const _)) (fun _ => (.bind (.app _) fun _ => (.sum (fun _ => (.const _)) (fun _ => (.ite (.ite (.const _) (.app _)) (.const _)))))))) (.const _))))) (.bind (.app _) fun _ => (.sum (fun _ => (.const _)) (fun _ => (.ite (.ite (.const _) (.app _)) (.const _))))))) (.const _)))))
theorem text_reader_value_eew_eq (q : (Int × Str)) : text_reader_value_eew q = text_reader_value_eewF text_reader_value_eew text_reader_items_tkf text_reader_items_tkf_l3 q := fixO_eq text_reader_value_eewGc (.inl q)
theorem text_reader_items_tkf_eq (q : (((Int × (Int × Str)) × (Int × Int)) × Str)) : text_reader_items_tkf q = text_reader_items_tkfF text_reader_value_eew text_reader_items_tkf text_reader_items_tkf_l3 q := fixO_eq text_reader_value_eewGc (.inr (.inl q))
theorem text_reader_items_tkf_l3_eq (q : ((Int × Int) × (Str × ((Int × (Int × Str)) × (GVal × ((List GVal) × (List Str))))))) : text_reader_items_tkf_l3 q = text_reader_items_tkf_l3F text_reader_value_eew text_reader_items_tkf text_reader_items_tkf_l3 q := fixO_eq text_reader_value_eewGc (.inr (.inr q))
noncomputable def text_word_1 : Int → Option (Bool) := fun c =>
 if (decide (c < (32 : Int))) then some true else
 if (decide (c > (126 : Int))) then some true else
 if (c == (34 : Int)) then some true else
 some (c == (92 : Int))
noncomputable def slices_IndexFunc_byte_hvz_l3F (self : (Int × ((List Int) × Int)) → Option (Int ⊕ Unit)) : (Int × ((List Int) × Int)) → Option (Int ⊕ Unit) := fun (x8, s, x7) =>
 if (decide (x8 < x7)) then (if ((0 : Int) ≤ x8) then
 if (x8 < (s.length : Int)) then
 text_word_1 (elt (.int .u8) s x8.toNat) >>= fun w =>
 if w then some (.inl x8) else
 self ((IntKind.wrap .i64 (x8 + (1 : Int))), (s, x7)) else none else none) else
 some (.inr ())
noncomputable def slices_IndexFunc_byte_hvz_l3 : (Int × ((List Int) × Int)) → Option (Int ⊕ Unit) := fixO (B := fun _ => Int ⊕ Unit) slices_IndexFunc_byte_hvz_l3F
theorem slices_IndexFunc_byte_hvz_l3_eq (q : (Int × ((List Int) × Int))) : slices_IndexFunc_byte_hvz_l3 q = slices_IndexFunc_byte_hvz_l3F slices_IndexFunc_byte_hvz_l3 q := fixO_eq (B := fun _ => Int ⊕ Unit) (fun (x8, s, x7) => (.ite (.ite (.ite (.bind (.const _) fun _ => (.ite (.const _) (.app _))) (.const _)) (.const _)) (.const _))) q
noncomputable def slices_IndexFunc_byte_hvz : (List Int) → Option (Int) := fun s =>
 slices_IndexFunc_byte_hvz_l3 ((0 : Int), (s, (s.length : Int))) >>= fun r =>
 Sum.elim (fun r1 => some r1) (fun r1 => some (-1 : Int)) r
noncomputable def slices_ContainsFunc_byte_hvz : (List Int) → Option (Bool) := fun s =>
 slices_IndexFunc_byte_hvz s >>= fun h =>
 some (decide (h ≥ (0 : Int)))
noncomputable def text_word : Str → Option (Bool) := fun s =>
 if (decide ((s.length : Int) ≤ (200 : Int))) then (slices_ContainsFunc_byte_hvz (strBytes s) >>= fun h =>
 some (!h)) else
 some false
noncomputable def text_names_l3F (self : (Int × ((List Str) × ((List Str) × (Int × Int)))) → Option (Bool ⊕ (Int × (List Str)))) : (Int × ((List Str) × ((List Str) × (Int × Int)))) → Option (Bool ⊕ (Int × (List Str))) := fun (x9, l, x7, many, x8) =>
 if (decide (x9 < x8)) then (if ((0 : Int) ≤ x9) then
 if (x9 < (x7.length : Int)) then
 text_word (elt .str x7 x9.toNat) >>= fun w =>
 if (!w) then some (.inl false) else
 if (decide (x9 > (0 : Int))) then (if ((0 : Int) ≤ (IntKind.wrap .i64 (x9 - (1 : Int)))) then
 if ((IntKind.wrap .i64 (x9 - (1 : Int))) < (l.length : Int)) then
 if (!(Op.bytesLess (elt .str l (IntKind.wrap .i64 (x9 - (1 : Int))).toNat) (elt .str x7 x9.toNat))) then some (.inl false) else
 self ((IntKind.wrap .i64 (x9 + (1 : Int))), (l, (x7, (many, x8)))) else none else none) else
 self ((IntKind.wrap .i64 (x9 + (1 : Int))), (l, (x7, (many, x8)))) else none else none) else
 some (.inr (many, l))
noncomputable def text_names_l3 : (Int × ((List Str) × ((List Str) × (Int × Int)))) → Option (Bool ⊕ (Int × (List Str))) := fixO (B := fun _ => Bool ⊕ (Int × (List Str))) text_names_l3F
theorem text_names_l3_eq (q : (Int × ((List Str) × ((List Str) × (Int × Int))))) : text_names_l3 q = text_names_l3F text_names_l3 q := fixO_eq (B := fun _ => Bool ⊕ (Int × (List Str))) (fun (x9, l, x7, many, x8) => (.ite (.ite (.ite (.bind (.const _) fun _ => (.ite (.const _) (.ite (.ite (.ite (.ite (.const _) (.app _)) (.const _)) (.const _)) (.app _)))) (.const _)) (.const _)) (.const _))) q
noncomputable def text_names : ((List Str) × Int) → Option (Bool) := fun (l, many) =>
 text_names_l3 ((0 : Int), (l, (l, (many, (l.length : Int))))) >>= fun r =>
 Sum.elim (fun r1 => some r1) (fun r1 => some ((r1.2.length : Int) == r1.1)) r
abbrev text_mayGA := (GVal × Int) ⊕ ((List GVal) × Int) ⊕ ((List GVal) × Int) ⊕ ((Int × ((List GVal) × Int)) × Int) ⊕ (GVal × Int)
abbrev text_mayGB : text_mayGA → Type
  | (.inl _) => Bool
  | (.inr (.inl _)) => (Bool × Int)
  | (.inr (.inr (.inl _))) => (Int × Int)
  | (.inr (.inr (.inr (.inl _)))) => (Int × Int) ⊕ Int
  | (.inr (.inr (.inr (.inr _)))) => (Bool × Int)
noncomputable def text_mayF (text_may : (GVal × Int) → Option (Bool)) (slices_ContainsFunc_api_Value_98e : ((List GVal) × Int) → Option ((Bool × Int))) (slices_IndexFunc_api_Value_98e : ((List GVal) × Int) → Option ((Int × Int))) (slices_IndexFunc_api_Value_98e_l3 : ((Int × ((List GVal) × Int)) × Int) → Option ((Int × Int) ⊕ Int)) (text_may_1_x8l : (GVal × Int) → Option ((Bool × Int))) : (GVal × Int) → Option (Bool) := fun (v, deep) =>
 if (deep == (0 : Int)) then some false else
 if (decide ((v.items.length : Int) > (16 : Int))) then some false else
 if ((v.items.length : Int) == (0 : Int)) then (if (v.kind == (1 : Int)) then (if ((v.names.length : Int) == (0 : Int)) then (if (v.s == []) then (if (decide (v.n ≥ (0 : Int))) then some (decide (v.n ≤ (1099511627776 : Int))) else
 some false) else
 some false) else
 some false) else
 if (v.kind == (2 : Int)) then (if ((v.names.length : Int) == (0 : Int)) then (if (v.n == (0 : Int)) then (text_word v.s >>= fun w =>
 some w) else
 some false) else
 some false) else
 if (v.kind == (3 : Int)) then (if (v.kind == (3 : Int)) then (if (v.kind == (3 : Int)) then (if (decide ((v.names.length : Int) > (0 : Int))) then some false else
 if (v.kind == (4 : Int)) then (text_names (v.names, (v.items.length : Int)) >>= fun n =>
 if (!n) then some false else
 if (v.n != (0 : Int)) then some false else
 if (v.s != []) then some false else
 slices_ContainsFunc_api_Value_98e (v.items, deep) >>= fun v1 =>
 some (!v1.1)) else
 if (v.n != (0 : Int)) then some false else
 if (v.s != []) then some false else
 slices_ContainsFunc_api_Value_98e (v.items, deep) >>= fun v1 =>
 some (!v1.1)) else
 if (v.kind == (4 : Int)) then (text_names (v.names, (v.items.length : Int)) >>= fun n =>
 if (!n) then some false else
 if (v.n != (0 : Int)) then some false else
 if (v.s != []) then some false else
 slices_ContainsFunc_api_Value_98e (v.items, deep) >>= fun v1 =>
 some (!v1.1)) else
 if (v.n != (0 : Int)) then some false else
 if (v.s != []) then some false else
 slices_ContainsFunc_api_Value_98e (v.items, deep) >>= fun v1 =>
 some (!v1.1)) else
 some false) else
 if (v.kind == (4 : Int)) then (if (v.kind == (3 : Int)) then (if (decide ((v.names.length : Int) > (0 : Int))) then some false else
 if (v.kind == (4 : Int)) then (text_names (v.names, (v.items.length : Int)) >>= fun n =>
 if (!n) then some false else
 if (v.n != (0 : Int)) then some false else
 if (v.s != []) then some false else
 slices_ContainsFunc_api_Value_98e (v.items, deep) >>= fun v1 =>
 some (!v1.1)) else
 if (v.n != (0 : Int)) then some false else
 if (v.s != []) then some false else
 slices_ContainsFunc_api_Value_98e (v.items, deep) >>= fun v1 =>
 some (!v1.1)) else
 if (v.kind == (4 : Int)) then (text_names (v.names, (v.items.length : Int)) >>= fun n =>
 if (!n) then some false else
 if (v.n != (0 : Int)) then some false else
 if (v.s != []) then some false else
 slices_ContainsFunc_api_Value_98e (v.items, deep) >>= fun v1 =>
 some (!v1.1)) else
 if (v.n != (0 : Int)) then some false else
 if (v.s != []) then some false else
 slices_ContainsFunc_api_Value_98e (v.items, deep) >>= fun v1 =>
 some (!v1.1)) else
 some false) else
 if (v.kind == (1 : Int)) then some false else
 if (v.kind == (2 : Int)) then some false else
 if (v.kind == (3 : Int)) then (if (v.kind == (3 : Int)) then (if (v.kind == (3 : Int)) then (if (decide ((v.names.length : Int) > (0 : Int))) then some false else
 if (v.kind == (4 : Int)) then (text_names (v.names, (v.items.length : Int)) >>= fun n =>
 if (!n) then some false else
 if (v.n != (0 : Int)) then some false else
 if (v.s != []) then some false else
 slices_ContainsFunc_api_Value_98e (v.items, deep) >>= fun v1 =>
 some (!v1.1)) else
 if (v.n != (0 : Int)) then some false else
 if (v.s != []) then some false else
 slices_ContainsFunc_api_Value_98e (v.items, deep) >>= fun v1 =>
 some (!v1.1)) else
 if (v.kind == (4 : Int)) then (text_names (v.names, (v.items.length : Int)) >>= fun n =>
 if (!n) then some false else
 if (v.n != (0 : Int)) then some false else
 if (v.s != []) then some false else
 slices_ContainsFunc_api_Value_98e (v.items, deep) >>= fun v1 =>
 some (!v1.1)) else
 if (v.n != (0 : Int)) then some false else
 if (v.s != []) then some false else
 slices_ContainsFunc_api_Value_98e (v.items, deep) >>= fun v1 =>
 some (!v1.1)) else
 some false) else
 if (v.kind == (4 : Int)) then (if (v.kind == (3 : Int)) then (if (decide ((v.names.length : Int) > (0 : Int))) then some false else
 if (v.kind == (4 : Int)) then (text_names (v.names, (v.items.length : Int)) >>= fun n =>
 if (!n) then some false else
 if (v.n != (0 : Int)) then some false else
 if (v.s != []) then some false else
 slices_ContainsFunc_api_Value_98e (v.items, deep) >>= fun v1 =>
 some (!v1.1)) else
 if (v.n != (0 : Int)) then some false else
 if (v.s != []) then some false else
 slices_ContainsFunc_api_Value_98e (v.items, deep) >>= fun v1 =>
 some (!v1.1)) else
 if (v.kind == (4 : Int)) then (text_names (v.names, (v.items.length : Int)) >>= fun n =>
 if (!n) then some false else
 if (v.n != (0 : Int)) then some false else
 if (v.s != []) then some false else
 slices_ContainsFunc_api_Value_98e (v.items, deep) >>= fun v1 =>
 some (!v1.1)) else
 if (v.n != (0 : Int)) then some false else
 if (v.s != []) then some false else
 slices_ContainsFunc_api_Value_98e (v.items, deep) >>= fun v1 =>
 some (!v1.1)) else
 some false
noncomputable def slices_ContainsFunc_api_Value_98eF (text_may : (GVal × Int) → Option (Bool)) (slices_ContainsFunc_api_Value_98e : ((List GVal) × Int) → Option ((Bool × Int))) (slices_IndexFunc_api_Value_98e : ((List GVal) × Int) → Option ((Int × Int))) (slices_IndexFunc_api_Value_98e_l3 : ((Int × ((List GVal) × Int)) × Int) → Option ((Int × Int) ⊕ Int)) (text_may_1_x8l : (GVal × Int) → Option ((Bool × Int))) : ((List GVal) × Int) → Option ((Bool × Int)) := fun (s, c) =>
 slices_IndexFunc_api_Value_98e (s, c) >>= fun v =>
 some ((decide (v.1 ≥ (0 : Int))), v.2)
noncomputable def slices_IndexFunc_api_Value_98eF (text_may : (GVal × Int) → Option (Bool)) (slices_ContainsFunc_api_Value_98e : ((List GVal) × Int) → Option ((Bool × Int))) (slices_IndexFunc_api_Value_98e : ((List GVal) × Int) → Option ((Int × Int))) (slices_IndexFunc_api_Value_98e_l3 : ((Int × ((List GVal) × Int)) × Int) → Option ((Int × Int) ⊕ Int)) (text_may_1_x8l : (GVal × Int) → Option ((Bool × Int))) : ((List GVal) × Int) → Option ((Int × Int)) := fun (s, c) =>
 slices_IndexFunc_api_Value_98e_l3 (((0 : Int), (s, (s.length : Int))), c) >>= fun r =>
 Sum.elim (fun r1 => some r1) (fun r1 => some ((-1 : Int), r1)) r
noncomputable def slices_IndexFunc_api_Value_98e_l3F (text_may : (GVal × Int) → Option (Bool)) (slices_ContainsFunc_api_Value_98e : ((List GVal) × Int) → Option ((Bool × Int))) (slices_IndexFunc_api_Value_98e : ((List GVal) × Int) → Option ((Int × Int))) (slices_IndexFunc_api_Value_98e_l3 : ((Int × ((List GVal) × Int)) × Int) → Option ((Int × Int) ⊕ Int)) (text_may_1_x8l : (GVal × Int) → Option ((Bool × Int))) : ((Int × ((List GVal) × Int)) × Int) → Option ((Int × Int) ⊕ Int) := fun ((x8, s, x7), c) =>
 if (decide (x8 < x7)) then (if ((0 : Int) ≤ x8) then
 if (x8 < (s.length : Int)) then
 text_may_1_x8l ((elt .val s x8.toNat).re, c) >>= fun m =>
 if m.1 then some (.inl (x8, m.2)) else
 slices_IndexFunc_api_Value_98e_l3 (((IntKind.wrap .i64 (x8 + (1 : Int))), (s, x7)), m.2) else none else none) else
 some (.inr c)
noncomputable def text_may_1_x8lF (text_may : (GVal × Int) → Option (Bool)) (slices_ContainsFunc_api_Value_98e : ((List GVal) × Int) → Option ((Bool × Int))) (slices_IndexFunc_api_Value_98e : ((List GVal) × Int) → Option ((Int × Int))) (slices_IndexFunc_api_Value_98e_l3 : ((Int × ((List GVal) × Int)) × Int) → Option ((Int × Int) ⊕ Int)) (text_may_1_x8l : (GVal × Int) → Option ((Bool × Int))) : (GVal × Int) → Option ((Bool × Int)) := fun (x1, c) =>
 text_may (x1.re, (IntKind.wrap .i64 (c - (1 : Int)))) >>= fun m =>
 some ((!m), c)
noncomputable def text_mayGF (u : ∀ a, Option (text_mayGB a)) : ∀ a, Option (text_mayGB a)
  | (.inl q) => text_mayF (fun q => u (.inl q)) (fun q => u (.inr (.inl q))) (fun q => u (.inr (.inr (.inl q)))) (fun q => u (.inr (.inr (.inr (.inl q))))) (fun q => u (.inr (.inr (.inr (.inr q))))) q
  | (.inr (.inl q)) => slices_ContainsFunc_api_Value_98eF (fun q => u (.inl q)) (fun q => u (.inr (.inl q))) (fun q => u (.inr (.inr (.inl q)))) (fun q => u (.inr (.inr (.inr (.inl q))))) (fun q => u (.inr (.inr (.inr (.inr q))))) q
  | (.inr (.inr (.inl q))) => slices_IndexFunc_api_Value_98eF (fun q => u (.inl q)) (fun q => u (.inr (.inl q))) (fun q => u (.inr (.inr (.inl q)))) (fun q => u (.inr (.inr (.inr (.inl q))))) (fun q => u (.inr (.inr (.inr (.inr q))))) q
  | (.inr (.inr (.inr (.inl q)))) => slices_IndexFunc_api_Value_98e_l3F (fun q => u (.inl q)) (fun q => u (.inr (.inl q))) (fun q => u (.inr (.inr (.inl q)))) (fun q => u (.inr (.inr (.inr (.inl q))))) (fun q => u (.inr (.inr (.inr (.inr q))))) q
  | (.inr (.inr (.inr (.inr q)))) => text_may_1_x8lF (fun q => u (.inl q)) (fun q => u (.inr (.inl q))) (fun q => u (.inr (.inr (.inl q)))) (fun q => u (.inr (.inr (.inr (.inl q))))) (fun q => u (.inr (.inr (.inr (.inr q))))) q
noncomputable def text_may (q : (GVal × Int)) : Option (Bool) := fixO text_mayGF (.inl q)
noncomputable def slices_ContainsFunc_api_Value_98e (q : ((List GVal) × Int)) : Option ((Bool × Int)) := fixO text_mayGF (.inr (.inl q))
noncomputable def slices_IndexFunc_api_Value_98e (q : ((List GVal) × Int)) : Option ((Int × Int)) := fixO text_mayGF (.inr (.inr (.inl q)))
noncomputable def slices_IndexFunc_api_Value_98e_l3 (q : ((Int × ((List GVal) × Int)) × Int)) : Option ((Int × Int) ⊕ Int) := fixO text_mayGF (.inr (.inr (.inr (.inl q))))
noncomputable def text_may_1_x8l (q : (GVal × Int)) : Option ((Bool × Int)) := fixO text_mayGF (.inr (.inr (.inr (.inr q))))
theorem text_mayGc : ∀ a, Cont fun u => text_mayGF u a
  | (.inl (v, deep)) => by unfold text_mayGF text_mayF; exact (.ite (.const _) (.ite (.const _) (.ite (.ite (.const _) (.ite (.const _) (.ite (.ite (.ite (.ite (.const _) (.ite (.bind (.const _) fun _ => (.ite (.const _) (.ite (.const _) (.ite (.const _) (.bind (.app _) fun _ => (.const _)))))) (.ite (.const _) (.ite (.const _) (.bind (.app _) fun _ => (.const _)))))) (.ite (.bind (.const _) fun _ => (.ite (.const _) (.ite (.const _) (.ite (.const _) (.bind (.app _) fun _ => (.const _)))))) (.ite (.const _) (.ite (.const _) (.bind (.app _) fun _ => (.const _)))))) (.const _)) (.ite (.ite (.ite (.const _) (.ite (.bind (.const _) fun _ => (.ite (.const _) (.ite (.const _) (.ite (.const _) (.bind (.app _) fun _ => (.const _)))))) (.ite (.const _) (.ite (.const _) (.bind (.app _) fun _ => (.const _)))))) (.ite (.bind (.const _) fun _ => (.ite (.const _) (.ite (.const _) (.ite (.const _) (.bind (.app _) fun _ => (.const _)))))) (.ite (.const _) (.ite (.const _) (.bind (.app _) fun _ => (.const _)))))) (.const _))))) (.ite (.const _) (.ite (.const _) (.ite (.ite (.ite (.ite (.const _) (.ite (.bind (.const _) fun _ => (.ite (.const _) (.ite (.const _) (.ite (.const _) (.bind (.app _) fun _ => (.const _)))))) (.ite (.const _) (.ite (.const _) (.bind (.app _) fun _ => (.const _)))))) (.ite (.bind (.const _) fun _ => (.ite (.const _) (.ite (.const _) (.ite (.const _) (.bind (.app _) fun _ => (.const _)))))) (.ite (.const _) (.ite (.const _) (.bind (.app _) fun _ => (.const _)))))) (.const _)) (.ite (.ite (.ite (.const _) (.ite (.bind (.const _) fun _ => (.ite (.const _) (.ite (.const _) (.ite (.const _) (.bind (.app _) fun _ => (.const _)))))) (.ite (.const _) (.ite (.const _) (.bind (.app _) fun _ => (.const _)))))) (.ite (.bind (.const _) fun _ => (.ite (.const _) (.ite (.const _) (.ite (.const _) (.bind (.app _) fun _ => (.const _)))))) (.ite (.const _) (.ite (.const _) (.bind (.app _) fun _ => (.const _)))))) (.const _))))))))
  | (.inr (.inl (s, c))) => by unfold text_mayGF slices_ContainsFunc_api_Value_98eF; exact (.bind (.app _) fun _ => (.const _))
  | (.inr (.inr (.inl (s, c)))) => by unfold text_mayGF slices_IndexFunc_api_Value_98eF; exact (.bind (.app _) fun _ => (.const _))
  | (.inr (.inr (.inr (.inl ((x8, s, x7), c))))) => by unfold text_mayGF slices_IndexFunc_api_Value_98e_l3F; exact (.ite (.ite (.ite (.bind (.app _) fun _ => (.ite (.const _) (.app _))) (.const _)) (.const _)) (.const _))
  | (.inr (.inr (.inr (.inr (x1, c))))) => by unfold text_mayGF text_may_1_x8lF; exact (.bind (.app _) fun _ => (.const _))
theorem text_may_eq (q : (GVal × Int)) : text_may q = text_mayF text_may slices_ContainsFunc_api_Value_98e slices_IndexFunc_api_Value_98e slices_IndexFunc_api_Value_98e_l3 text_may_1_x8l q := fixO_eq text_mayGc (.inl q)
theorem slices_ContainsFunc_api_Value_98e_eq (q : ((List GVal) × Int)) : slices_ContainsFunc_api_Value_98e q = slices_ContainsFunc_api_Value_98eF text_may slices_ContainsFunc_api_Value_98e slices_IndexFunc_api_Value_98e slices_IndexFunc_api_Value_98e_l3 text_may_1_x8l q := fixO_eq text_mayGc (.inr (.inl q))
theorem slices_IndexFunc_api_Value_98e_eq (q : ((List GVal) × Int)) : slices_IndexFunc_api_Value_98e q = slices_IndexFunc_api_Value_98eF text_may slices_ContainsFunc_api_Value_98e slices_IndexFunc_api_Value_98e slices_IndexFunc_api_Value_98e_l3 text_may_1_x8l q := fixO_eq text_mayGc (.inr (.inr (.inl q)))
theorem slices_IndexFunc_api_Value_98e_l3_eq (q : ((Int × ((List GVal) × Int)) × Int)) : slices_IndexFunc_api_Value_98e_l3 q = slices_IndexFunc_api_Value_98e_l3F text_may slices_ContainsFunc_api_Value_98e slices_IndexFunc_api_Value_98e slices_IndexFunc_api_Value_98e_l3 text_may_1_x8l q := fixO_eq text_mayGc (.inr (.inr (.inr (.inl q))))
theorem text_may_1_x8l_eq (q : (GVal × Int)) : text_may_1_x8l q = text_may_1_x8lF text_may slices_ContainsFunc_api_Value_98e slices_IndexFunc_api_Value_98e slices_IndexFunc_api_Value_98e_l3 text_may_1_x8l q := fixO_eq text_mayGc (.inr (.inr (.inr (.inr q))))
noncomputable def text_Right : GVal → Option (Bool) := fun v =>
 text_may (v.re, (6 : Int)) >>= fun m =>
 some m
noncomputable def text_quoted : Str → Option (Str) := fun s =>
 if ((([34] : Str).length + s.length) ≤ 9223372036854775807) then
 if (((([34] : Str) ++ s).length + ([34] : Str).length) ≤ 9223372036854775807) then
 some ((([34] : Str) ++ s) ++ ([34] : Str)) else none else none
abbrev text_writtenGA := GVal ⊕ ((Int × ((List GVal) × Int)) × ((List Str) × GVal))
abbrev text_writtenGB : text_writtenGA → Type
  | (.inl _) => Str
  | (.inr _) => (GVal × (List Str))
noncomputable def text_writtenF (text_written : GVal → Option (Str)) (text_written_l10 : ((Int × ((List GVal) × Int)) × ((List Str) × GVal)) → Option ((GVal × (List Str)))) : GVal → Option (Str) := fun v =>
 if (v.kind == (1 : Int)) then (lib_Itoa v.n >>= fun i =>
 some i) else
 if (v.kind == (2 : Int)) then (text_quoted v.s >>= fun q =>
 some q) else
 text_written_l10 (((0 : Int), (v.items, (v.items.length : Int))), ([], v.re)) >>= fun r =>
 lib_Join (r.2, ([44] : Str)) >>= fun j =>
 if (r.1.kind == (3 : Int)) then (if ((([91] : Str).length + j.length) ≤ 9223372036854775807) then
 if (((([91] : Str) ++ j).length + ([93] : Str).length) ≤ 9223372036854775807) then
 some ((([91] : Str) ++ j) ++ ([93] : Str)) else none else none) else
 if ((([123] : Str).length + j.length) ≤ 9223372036854775807) then
 if (((([123] : Str) ++ j).length + ([125] : Str).length) ≤ 9223372036854775807) then
 some ((([123] : Str) ++ j) ++ ([125] : Str)) else none else none
noncomputable def text_written_l10F (text_written : GVal → Option (Str)) (text_written_l10 : ((Int × ((List GVal) × Int)) × ((List Str) × GVal)) → Option ((GVal × (List Str)))) : ((Int × ((List GVal) × Int)) × ((List Str) × GVal)) → Option ((GVal × (List Str))) := fun ((x23, x21, x22), c, c1) =>
 if (decide (x23 < x22)) then (if ((0 : Int) ≤ x23) then
 if (x23 < (x21.length : Int)) then
 text_written (elt .val x21 x23.toNat).re >>= fun w =>
 if (c1.kind == (4 : Int)) then (if ((0 : Int) ≤ x23) then
 if (x23 < (c1.names.length : Int)) then
 text_quoted (elt .str c1.names x23.toNat) >>= fun q =>
 if ((q.length + ([58] : Str).length) ≤ 9223372036854775807) then
 if (((q ++ ([58] : Str)).length + w.length) ≤ 9223372036854775807) then
 if (sumOk (c.length + [((q ++ ([58] : Str)) ++ w)].length) 16) then
 text_written_l10 (((IntKind.wrap .i64 (x23 + (1 : Int))), (x21, x22)), ((c ++ [((q ++ ([58] : Str)) ++ w)]), c1.re)) else none else none else none else none else none) else
 if (sumOk (c.length + [w].length) 16) then
 text_written_l10 (((IntKind.wrap .i64 (x23 + (1 : Int))), (x21, x22)), ((c ++ [w]), c1.re)) else none else none else none) else
 some (c1.re, c)
noncomputable def text_writtenGF (u : ∀ a, Option (text_writtenGB a)) : ∀ a, Option (text_writtenGB a)
  | (.inl q) => text_writtenF (fun q => u (.inl q)) (fun q => u (.inr q)) q
  | (.inr q) => text_written_l10F (fun q => u (.inl q)) (fun q => u (.inr q)) q
noncomputable def text_written (q : GVal) : Option (Str) := fixO text_writtenGF (.inl q)
noncomputable def text_written_l10 (q : ((Int × ((List GVal) × Int)) × ((List Str) × GVal))) : Option ((GVal × (List Str))) := fixO text_writtenGF (.inr q)
theorem text_writtenGc : ∀ a, Cont fun u => text_writtenGF u a
  | (.inl v) => by unfold text_writtenGF text_writtenF; exact (.ite (.const _) (.ite (.const _) (.bind (.app _) fun _ => (.const _))))
  | (.inr ((x23, x21, x22), c, c1)) => by unfold text_writtenGF text_written_l10F; exact (.ite (.ite (.ite (.bind (.app _) fun _ => (.ite (.ite (.ite (.bind (.const _) fun _ => (.ite (.ite (.ite (.app _) (.const _)) (.const _)) (.const _))) (.const _)) (.const _)) (.ite (.app _) (.const _)))) (.const _)) (.const _)) (.const _))
theorem text_written_eq (q : GVal) : text_written q = text_writtenF text_written text_written_l10 q := fixO_eq text_writtenGc (.inl q)
theorem text_written_l10_eq (q : ((Int × ((List GVal) × Int)) × ((List Str) × GVal))) : text_written_l10 q = text_written_l10F text_written text_written_l10 q := fixO_eq text_writtenGc (.inr q)
noncomputable def text_Print : GVal → Option ((Str × Int)) := fun v =>
 text_Right v.re >>= fun r =>
 if (!r) then some ([], (1 : Int)) else
 text_written v.re >>= fun w =>
 if (decide ((w.length : Int) > (4096 : Int))) then some ([], (2 : Int)) else
 some (w, (0 : Int))
noncomputable def text_Parse : Str → Option ((GVal × Int)) := fun s =>
 if (decide ((s.length : Int) > (4096 : Int))) then some ((GVal.mk (0 : Int) (0 : Int) [] [] []), (2 : Int)) else
 text_reader_value_eew ((6 : Int), s) >>= fun e =>
 Sum.elim (fun e1 => some ((GVal.mk (0 : Int) (0 : Int) [] [] []), (6 : Int))) (fun e1 => text_Print e1.1.re >>= fun p =>
 if (p.2 != (0 : Int)) then some ((GVal.mk (0 : Int) (0 : Int) [] [] []), (6 : Int)) else
 if (p.1 != s) then some ((GVal.mk (0 : Int) (0 : Int) [] [] []), (6 : Int)) else
 some (e1.1.re, (0 : Int))) e
noncomputable def slices_Index_string_l3F (self : (Int × ((List Str) × (Str × Int))) → Option (Int ⊕ Unit)) : (Int × ((List Str) × (Str × Int))) → Option (Int ⊕ Unit) := fun (x8, s, v, x7) =>
 if (decide (x8 < x7)) then (if ((0 : Int) ≤ x8) then
 if (x8 < (s.length : Int)) then
 if (v == (elt .str s x8.toNat)) then some (.inl x8) else
 self ((IntKind.wrap .i64 (x8 + (1 : Int))), (s, (v, x7))) else none else none) else
 some (.inr ())
noncomputable def slices_Index_string_l3 : (Int × ((List Str) × (Str × Int))) → Option (Int ⊕ Unit) := fixO (B := fun _ => Int ⊕ Unit) slices_Index_string_l3F
theorem slices_Index_string_l3_eq (q : (Int × ((List Str) × (Str × Int)))) : slices_Index_string_l3 q = slices_Index_string_l3F slices_Index_string_l3 q := fixO_eq (B := fun _ => Int ⊕ Unit) (fun (x8, s, v, x7) => (.ite (.ite (.ite (.ite (.const _) (.app _)) (.const _)) (.const _)) (.const _))) q
noncomputable def slices_Index_string : ((List Str) × Str) → Option (Int) := fun (s, v) =>
 slices_Index_string_l3 ((0 : Int), (s, (v, (s.length : Int)))) >>= fun r =>
 Sum.elim (fun r1 => some r1) (fun r1 => some (-1 : Int)) r
noncomputable def text_Get : (GVal × (Str × Int)) → Option ((GVal × Int)) := fun (v, name, kind) =>
 slices_Index_string (v.names, name) >>= fun s =>
 if (v.kind != (4 : Int)) then some ((GVal.mk (0 : Int) (0 : Int) [] [] []), (8 : Int)) else
 if ((v.names.length : Int) != (v.items.length : Int)) then some ((GVal.mk (0 : Int) (0 : Int) [] [] []), (8 : Int)) else
 if (decide (s < (0 : Int))) then some ((GVal.mk (0 : Int) (0 : Int) [] [] []), (8 : Int)) else
 if ((0 : Int) ≤ s) then
 if (s < (v.items.length : Int)) then
 if ((elt .val v.items s.toNat).kind != kind) then some ((GVal.mk (0 : Int) (0 : Int) [] [] []), (8 : Int)) else
 if ((0 : Int) ≤ s) then
 if (s < (v.items.length : Int)) then
 some ((elt .val v.items s.toNat).re, (0 : Int)) else none else none else none else none
end Go.Plain
