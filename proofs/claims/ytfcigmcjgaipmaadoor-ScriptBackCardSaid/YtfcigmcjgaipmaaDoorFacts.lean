/-
  Plain facts of the printed functions of layer 4: words and their order.
-/
import Derived.Test.YtfcigmcjgaipmaaDoorPrn
import Derived.IntWalk
import Derived.Test.YtfcigmcjgaipmaaDoorBMTrod
import Derived.Lib.ItoaLen
namespace Go.Plain
open Go.AM

theorem wr64 {n : Int} (h : -9223372036854775808 ≤ n ∧ n ≤ 9223372036854775807) : IntKind.wrap .i64 n = n := Go.IntWalk.i64_in n h
theorem bt_at {s : Str} {i : Nat} (h : i < s.length) : bt s (i : Int) = ((s[i]).toNat : Int) := by
  unfold bt
  simp [List.getD_eq_getElem?_getD, List.getElem?_eq_getElem h]
theorem drop_at {α : Type} {s : List α} {i : Nat} (h : i < s.length) : s.drop i = s[i] :: s.drop (i + 1) := (List.drop_eq_getElem_cons h)

end Go.Plain

/-
  Plain facts of the printed functions of layer 4: names.
-/
namespace Go.Plain
open Go.AM

theorem sb {α β : Type} (a : α) (f : α → Option β) : (some a >>= f) = f a := rfl

end Go.Plain

/-
  Plain facts of the printed functions of layer 4: which values may be.
-/
namespace Go.Plain
open Go.AM

end Go.Plain

/-
  Plain facts of the printed functions of layer 4: which values may be, by the document.
-/
namespace Go.Plain
open Go.AM

end Go.Plain

/-
  Plain facts of the printed functions of layer 4: a value's text.
-/
namespace Go.Plain
open Go.AM

def quo (s : Str) : Str := [34] ++ s ++ [34]
/-- A member: its name and its text. -/
def memb (nm t : Str) : Str := quo nm ++ [58] ++ t
/-- Parts one behind the other, parted by a comma; the first one has none ahead of it. -/
def jr : Bool → List Str → Str
  | _, [] => []
  | b, x :: r => (if b then [] else [44]) ++ x ++ jr false r
mutual
noncomputable def txt : GVal → Str
  | .mk k n s items names =>
    if k = 1 then Lib.itoa n else if k = 2 then quo s
    else if k = 4 then [123] ++ jr true (List.zipWith memb names (txts items)) ++ [125] else [91] ++ jr true (txts items) ++ [93]
noncomputable def txts : List GVal → List Str
  | [] => []
  | x :: r => txt x :: txts r
end
/-- A text's bound, by how deep it is. -/
def lim : Nat → Nat
  | 0 => 0
  | d + 1 => 300 + 16 * (300 + lim d)
end Go.Plain

/-
  Plain facts of the printed functions of layer 4: a value's text, by the document; likeness.
-/
namespace Go.Plain
open Go.AM
open Classical

/-! Likeness: all of a value is compared. -/
end Go.Plain

/-
  Plain facts of the printed functions of layer 4: numerals, and how one is read.
-/
namespace Go.Plain
open Go.AM

theorem wr8 {n : Int} (h : 0 ≤ n ∧ n ≤ 255) : IntKind.wrap .u8 n = n := by
  unfold IntKind.wrap
  simp [IntKind.bits, IntKind.signed]
  omega
end Go.Plain

/-
  Plain facts of the printed functions of layer 4: how a text is taken apart.
-/
namespace Go.Plain
open Go.AM
open Classical

end Go.Plain

/-
  Plain facts of the printed functions of layer 4: a value's text is read as that value.
-/
namespace Go.Plain
open Go.AM
open Classical

end Go.Plain

/-
  The laws of layer 4, in plain Lean: all but that of parsing.
-/
namespace Go.Plain
open Go.AM
open Classical

end Go.Plain

/-
  Plain facts of the printed functions of layer 4: how the document reads a text.
-/
namespace Go.Plain
open Go.AM
open Classical

/-! Numbers. -/
end Go.Plain

/-
  Plain facts of the printed functions of layer 4: the document reads just the texts of values.
-/
namespace Go.Plain
open Go.AM
open Classical

end Go.Plain

/-
  Plain facts of the printed functions of layer 4: the document reads each value's text; members; the law of parsing.
-/
namespace Go.Plain
open Go.AM
open Classical

/-! Members. -/
end Go.Plain
