/-
  The table of package digest: the round constants.
-/
import Derived.Test.YtfcigmcjgaipmaaDoorBMLib
namespace Go.Plain
end Go.Plain

namespace Go.Plain
open Go.AM
set_option linter.unusedVariables false
end Go.Plain

namespace Go.Plain
open Go.AM
set_option linter.unusedVariables false
noncomputable def i_stringslite_HasPrefix : (Str × Str) → Option (Bool) := fun (s, prefix1) =>
 if (decide ((s.length : Int) ≥ (prefix1.length : Int))) then (if ((prefix1.length : Int) ≤ (s.length : Int)) then
 some ((List.take (prefix1.length : Int).toNat s) == prefix1) else none) else
 some false
noncomputable def i_stringslite_CutPrefix : (Str × Str) → Option ((Str × Bool)) := fun (s, prefix1) =>
 i_stringslite_HasPrefix (s, prefix1) >>= fun h =>
 if (!h) then some (s, false) else
 if ((prefix1.length : Int) ≤ (s.length : Int)) then
 if ((s.length : Int) ≤ (s.length : Int)) then
 some ((List.drop (prefix1.length : Int).toNat (List.take (s.length : Int).toNat s)), true) else none else none
noncomputable def strings_CutPrefix : (Str × Str) → Option ((Str × Bool)) := fun (s, prefix1) =>
 i_stringslite_CutPrefix (s, prefix1) >>= fun c =>
 some c
noncomputable def octet_Bytes_l7F (self : ((Int × (Str × Int)) × (List Int)) → Option ((Str × Int) ⊕ (List Int))) : ((Int × (Str × Int)) × (List Int)) → Option ((Str × Int) ⊕ (List Int)) := fun ((x18, s, x17), c) =>
 if (decide (x18 < x17)) then (if ((0 : Int) ≤ (IntKind.wrap .i64 ((2 : Int) * x18))) then
 if ((IntKind.wrap .i64 ((2 : Int) * x18)) < (s.length : Int)) then
 lib_IndexByte (([48, 49, 50, 51, 52, 53, 54, 55, 56, 57, 97, 98, 99, 100, 101, 102] : Str), (bt s (IntKind.wrap .i64 ((2 : Int) * x18)))) >>= fun i =>
 if ((0 : Int) ≤ (IntKind.wrap .i64 ((IntKind.wrap .i64 ((2 : Int) * x18)) + (1 : Int)))) then
 if ((IntKind.wrap .i64 ((IntKind.wrap .i64 ((2 : Int) * x18)) + (1 : Int))) < (s.length : Int)) then
 lib_IndexByte (([48, 49, 50, 51, 52, 53, 54, 55, 56, 57, 97, 98, 99, 100, 101, 102] : Str), (bt s (IntKind.wrap .i64 ((IntKind.wrap .i64 ((2 : Int) * x18)) + (1 : Int))))) >>= fun i1 =>
 if (decide (i < (0 : Int))) then some (.inl ([], (4 : Int))) else
 if (decide (i1 < (0 : Int))) then some (.inl ([], (4 : Int))) else
 if ((0 : Int) ≤ x18) then
 if (x18 < (c.length : Int)) then
 if (x18.toNat < c.length) then
 self (((IntKind.wrap .i64 (x18 + (1 : Int))), (s, x17)), (List.set c x18.toNat (IntKind.wrap .u8 (IntKind.wrap .i64 ((IntKind.wrap .i64 (i * (16 : Int))) + i1))))) else none else none else none else none else none else none else none) else
 some (.inr c)
noncomputable def octet_Bytes_l7 : ((Int × (Str × Int)) × (List Int)) → Option ((Str × Int) ⊕ (List Int)) := fixO (B := fun _ => (Str × Int) ⊕ (List Int)) octet_Bytes_l7F
theorem octet_Bytes_l7_eq (q : ((Int × (Str × Int)) × (List Int))) : octet_Bytes_l7 q = octet_Bytes_l7F octet_Bytes_l7 q := fixO_eq (B := fun _ => (Str × Int) ⊕ (List Int)) (fun ((x18, s, x17), c) => (.ite (.ite (.ite (.bind (.const _) fun _ => (.ite (.ite (.bind (.const _) fun _ => (.ite (.const _) (.ite (.const _) (.ite (.ite (.ite (.app _) (.const _)) (.const _)) (.const _))))) (.const _)) (.const _))) (.const _)) (.const _)) (.const _))) q
noncomputable def octet_Bytes : Str → Option ((Str × Int)) := fun s =>
 if ((Int.tmod (s.length : Int) (2 : Int)) != (0 : Int)) then some ([], (4 : Int)) else
 if ((IntKind.wrap .i64 (Int.tdiv (s.length : Int) (2 : Int))) = (IntKind.wrap .i64 (Int.tdiv (s.length : Int) (2 : Int)))) then
 if ((0 : Int) ≤ (IntKind.wrap .i64 (Int.tdiv (s.length : Int) (2 : Int)))) then
 if (sumOk (IntKind.wrap .i64 (Int.tdiv (s.length : Int) (2 : Int))).toNat 1) then
 octet_Bytes_l7 (((0 : Int), (s, ((List.replicate (IntKind.wrap .i64 (Int.tdiv (s.length : Int) (2 : Int))).toNat (0 : Int)).length : Int))), (List.replicate (IntKind.wrap .i64 (Int.tdiv (s.length : Int) (2 : Int))).toNat (0 : Int))) >>= fun r =>
 Sum.elim (fun r1 => some r1) (fun r1 => some ((bytesStr r1), (0 : Int))) r else none else none else none
noncomputable def ref01_half : Int → Option (Int) := fun c =>
 if (decide (c ≥ (48 : Int))) then (if (decide (c ≤ (57 : Int))) then some (IntKind.wrap .i64 (IntKind.wrap .u8 (c - (48 : Int)))) else
 if (decide (c ≥ (97 : Int))) then (if (decide (c ≤ (102 : Int))) then some (IntKind.wrap .i64 ((IntKind.wrap .i64 (IntKind.wrap .u8 (c - (97 : Int)))) + (10 : Int))) else
 some (16 : Int)) else
 some (16 : Int)) else
 if (decide (c ≥ (97 : Int))) then (if (decide (c ≤ (102 : Int))) then some (IntKind.wrap .i64 ((IntKind.wrap .i64 (IntKind.wrap .u8 (c - (97 : Int)))) + (10 : Int))) else
 some (16 : Int)) else
 some (16 : Int)
noncomputable def ref01_Bytes_l4F (self : ((Int × Str) × (List Int)) → Option ((Str × Bool) ⊕ (Str × (List Int)))) : ((Int × Str) × (List Int)) → Option ((Str × Bool) ⊕ (Str × (List Int))) := fun ((i, s), c) =>
 if (decide ((IntKind.wrap .i64 (i + (1 : Int))) < (s.length : Int))) then (if ((0 : Int) ≤ i) then
 if (i < (s.length : Int)) then
 ref01_half (bt s i) >>= fun h =>
 if (decide (h > (15 : Int))) then some (.inl ([], false)) else
 if ((0 : Int) ≤ (IntKind.wrap .i64 (i + (1 : Int)))) then
 if ((IntKind.wrap .i64 (i + (1 : Int))) < (s.length : Int)) then
 ref01_half (bt s (IntKind.wrap .i64 (i + (1 : Int)))) >>= fun h1 =>
 if (decide (h1 > (15 : Int))) then some (.inl ([], false)) else
 if ((0 : Int) ≤ i) then
 if (i < (s.length : Int)) then
 ref01_half (bt s i) >>= fun h2 =>
 if ((0 : Int) ≤ (IntKind.wrap .i64 (i + (1 : Int)))) then
 if ((IntKind.wrap .i64 (i + (1 : Int))) < (s.length : Int)) then
 ref01_half (bt s (IntKind.wrap .i64 (i + (1 : Int)))) >>= fun h3 =>
 if (sumOk (c.length + [(IntKind.wrap .u8 (IntKind.wrap .i64 ((IntKind.wrap .i64 ((16 : Int) * h2)) + h3)))].length) 1) then
 self (((IntKind.wrap .i64 (i + (2 : Int))), s), (c ++ [(IntKind.wrap .u8 (IntKind.wrap .i64 ((IntKind.wrap .i64 ((16 : Int) * h2)) + h3)))])) else none else none else none else none else none else none else none else none else none) else
 some (.inr (s, c))
noncomputable def ref01_Bytes_l4 : ((Int × Str) × (List Int)) → Option ((Str × Bool) ⊕ (Str × (List Int))) := fixO (B := fun _ => (Str × Bool) ⊕ (Str × (List Int))) ref01_Bytes_l4F
theorem ref01_Bytes_l4_eq (q : ((Int × Str) × (List Int))) : ref01_Bytes_l4 q = ref01_Bytes_l4F ref01_Bytes_l4 q := fixO_eq (B := fun _ => (Str × Bool) ⊕ (Str × (List Int))) (fun ((i, s), c) => (.ite (.ite (.ite (.bind (.const _) fun _ => (.ite (.const _) (.ite (.ite (.bind (.const _) fun _ => (.ite (.const _) (.ite (.ite (.bind (.const _) fun _ => (.ite (.ite (.bind (.const _) fun _ => (.ite (.app _) (.const _))) (.const _)) (.const _))) (.const _)) (.const _)))) (.const _)) (.const _)))) (.const _)) (.const _)) (.const _))) q
noncomputable def ref01_Bytes : Str → Option ((Str × Bool)) := fun s =>
 ref01_Bytes_l4 (((0 : Int), s), []) >>= fun r =>
 Sum.elim (fun r1 => some r1) (fun r1 => some ((bytesStr r1.2), ((Int.tmod (r1.1.length : Int) (2 : Int)) == (0 : Int)))) r
noncomputable def ref01_Same_l6F (self : (Int × ((List Str) × ((List Str) × Int))) → Option (Bool ⊕ Unit)) : (Int × ((List Str) × ((List Str) × Int))) → Option (Bool ⊕ Unit) := fun (x13, b, a, x12) =>
 if (decide (x13 < x12)) then (if ((0 : Int) ≤ x13) then
 if (x13 < (a.length : Int)) then
 if ((0 : Int) ≤ x13) then
 if (x13 < (b.length : Int)) then
 if ((elt .str a x13.toNat) != (elt .str b x13.toNat)) then some (.inl false) else
 self ((IntKind.wrap .i64 (x13 + (1 : Int))), (b, (a, x12))) else none else none else none else none) else
 some (.inr ())
noncomputable def ref01_Same_l6 : (Int × ((List Str) × ((List Str) × Int))) → Option (Bool ⊕ Unit) := fixO (B := fun _ => Bool ⊕ Unit) ref01_Same_l6F
theorem ref01_Same_l6_eq (q : (Int × ((List Str) × ((List Str) × Int)))) : ref01_Same_l6 q = ref01_Same_l6F ref01_Same_l6 q := fixO_eq (B := fun _ => Bool ⊕ Unit) (fun (x13, b, a, x12) => (.ite (.ite (.ite (.ite (.ite (.ite (.const _) (.app _)) (.const _)) (.const _)) (.const _)) (.const _)) (.const _))) q
noncomputable def ref01_Same : ((List Str) × (List Str)) → Option (Bool) := fun (a, b) =>
 if ((a.length : Int) != (b.length : Int)) then some false else
 ref01_Same_l6 ((0 : Int), (b, (a, (a.length : Int)))) >>= fun r =>
 Sum.elim (fun r1 => some r1) (fun r1 => some true) r
end Go.Plain

namespace Go.Plain
open Go.AM
set_option linter.unusedVariables false
end Go.Plain

namespace Go.Plain
open Go.AM
set_option linter.unusedVariables false
end Go.Plain

/-
  The kinds of a script's deeds: their words, how many numbers, and how many texts.
-/
namespace Go.AM
set_option linter.unusedSectionVars false
def shapesL : List (Int × (Str × (Int × Int))) := [
  (1, ([98, 108, 111, 98], (1, 2))), (2, ([112, 117, 116], (1, 2))), (3, ([110, 97, 109, 101], (1, 3))), (4, ([117, 110, 110, 97, 109, 101], (1, 2))),
  (5, ([114, 117, 108, 101], (3, 4))), (6, ([117, 110, 115, 101, 116], (1, 0))), (7, ([102, 105, 114, 101], (1, 0))), (8, ([116, 105, 99, 107], (1, 0))),
  (9, ([115, 116, 101, 112], (2, 0))), (10, ([115, 116, 111, 112], (1, 0))), (11, ([97, 103, 97, 105, 110], (1, 0))), (12, ([99, 114, 97, 115, 104], (7, 3)))]
def lib_shapes : Unit → Option (List (Int × (Str × (Int × Int)))) := fun _ => some shapesL
variable [Lay]
theorem k_shapes {E : Env} {f : FuncId} (c : ACall E f [] [] (fun r h' => r = .ret (.fmap (.int .i64) (.pair .str (.pair (.int .i64) (.int .i64))) shapesL) ∧ h' = [])) :
    EntS E f [] [] [⟨false, ⟨[(0, .fm (.int .i64) (.pair .str (.pair (.int .i64) (.int .i64))))], []⟩⟩] lib_shapes := by
  intro x y hy
  change some shapesL = some y at hy
  cases hy
  exact c

/-- slices.Repeat, of a row of one text. -/
noncomputable def lib_RepeatS : List Str × Int → Option (List Str) := fun (l, n) => if l.length = 1 ∧ 1 ≤ n ∧ n ≤ 64 then some (List.replicate n.toNat (elt .str l 0)) else none
theorem k_slices_RepeatS {E : Env} {f : FuncId} (en : Enters E.P f)
    (c : ∀ (g o cap : Nat) (s : ByteArray) (n : Nat) (w : World), w.cell? ⟨g, o, none⟩ = some (.string s) → 1 ≤ cap → 1 ≤ n → n ≤ 64 →
      Calls E.P f #[.slice (some ⟨g, o, none⟩) 1 cap, .int .i64 n] w fun e w' => ∃ (w1 : World) (ty : TypeId), RowKit.Below w.heap.size w w1 ∧ w' = w1.alloc (.cells (List.replicate n (Value.string s)).toArray ty) ∧ e = .returned (.slice (some ⟨w1.heap.size, 0, none⟩) n n)) :
    EntS E f [.d (.sl .str), .d (.int .i64)] [] [⟨false, ⟨[(0, .fx (.own .str 0 false))], [.arr .str true]⟩⟩] lib_RepeatS := by
  intro (q : List Str × Int) (y : List Str) hy
  obtain ⟨l, n⟩ := q
  change (if List.length l = 1 ∧ 1 ≤ n ∧ n ≤ 64 then some (List.replicate n.toNat (elt .str l 0)) else none) = some y at hy
  split at hy
  · rename_i hs
    cases hy
    obtain ⟨n, rfl⟩ := Int.eq_ofNat_of_zero_le (show 0 ≤ n by omega)
    obtain ⟨s, rfl⟩ : ∃ s, l = [s] := List.length_eq_one_iff.1 hs.1
    have := ACall.ofNewRow (args := [.sl .str [s] false, .int .i64 (n : Int)]) (t := .str) (l := List.replicate n s) en fun w I μ vs R hv => by
      obtain ⟨v, u, rfl, h1, h2⟩ := args2 hv
      obtain rfl := rep_int h2
      cases h1 with
      | sl _ _ _ a m cap hr _ =>
        obtain ⟨rfl, hcap, hat⟩ := str_cells hr
        obtain ⟨g, o, rfl, hc⟩ := hat (by simp)
        refine (c g o cap ⟨s.toArray⟩ n w (hc 0 s rfl) hcap (by omega) (by omega)).mono ?_
        rintro e w' ⟨w1, ty, hb, rfl, rfl⟩
        have e : List.replicate n (Value.string ⟨s.toArray⟩) = (List.replicate n s).map fun x => Value.string ⟨x.toArray⟩ := by simp
        refine ⟨w1, _, ty, n, hb, rfl, by simp, by simp, by simp [Ty.sz], ?_⟩
        rw [e]
        exact rd_texts _
    rw [Int.toNat_natCast, show elt .str [s] 0 = s from elt_eq (t := .str) (l := [s]) (i := 0) Nat.zero_lt_one]
    exact this
  · cases hy
end Go.AM
