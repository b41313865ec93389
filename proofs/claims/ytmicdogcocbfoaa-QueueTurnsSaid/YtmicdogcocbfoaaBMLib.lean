/-
  BM, part 40: contracts of the library's functions (laid elsewhere, over the machine's worlds) as entries.
-/
import Derived.Test.YtmicdogcocbfoaaBMDefer
import Derived.Test.YtmicdogcocbfoaaBMHex
import Derived.Below
import Derived.Sort.Grow
import Derived.Deep.Draws
import Derived.Lib.LaidTab
import Derived.Lib.IndexMore
import Derived.Lib.ItoaNum
import Derived.Lib.Join
import Derived.Lib.SlTrimSet
namespace Go.AM
set_option linter.unusedSectionVars false
variable [Lay]
open Go.RowKit Go.Sort

section
variable {E : Env} {w w' : World} {I : Nat → Nat → Prop} {h : Heap} {μ : Nat → Option Nat}

/-- What an entry says. -/
def EntS (E : Env) (f : FuncId) (ins : List Sh) (hin : List BSh) (outs : List FA) (G : (tpair (Sh.ty.tyL ins) (tyH hin)).den → Option (dAlts (tysF outs))) : Prop := ∀ x y, G x = some y → EntP E f ins hin outs x y

/-! ### strings.Cut -/
/-! ### strconv.Itoa -/
/-! ### strings.Join -/
/-! ### strings.TrimLeft at an ASCII cutset -/
/-! ### slices.Clone -/
noncomputable def lib_Clone {α : Type} : List α → Option (List α) := fun l => if l.length ≤ 4294967296 then some l else none
theorem k_Clone {t : Ty} {f : FuncId} (c : ∀ l : List t.den, l.length ≤ 4294967296 → ACall E f [.sl t l false] [] (fun r h' => r = .ret (.own t 0 false) ∧ h' = [.arr t l true])) :
    EntS E f [.d (.sl t)] [] [⟨false, ⟨[(0, .fx (.own t 0 false))], [.arr t true]⟩⟩] (fun q : List t.den => lib_Clone q) := by
  intro x y hy
  change (if List.length x ≤ 4294967296 then some x else none) = some y at hy
  split at hy
  · rename_i hs
    cases hy
    exact c x hs
  · cases hy

/-! ### slices.Delete -/
noncomputable def lib_Delete {α : Type} : ((Int × Int) × List α) → Option (List α) := fun q => if 0 ≤ q.1.1 ∧ q.1.1 < q.1.2 ∧ q.1.2 ≤ (q.2.length : Int) then some (q.2.take q.1.1.toNat ++ q.2.drop q.1.2.toNat) else none
theorem k_Delete {t : Ty} {f : FuncId} (c : ∀ (l : List t.den) (i j : Nat) (full : Bool), i < j → j ≤ l.length →
      ACall E f [.own t 0 full, .int .i64 i, .int .i64 j] [.arr t l true] (fun r h' => r = .ret (.own t 1 false) ∧ h' = [.gone, .arr t (l.take i ++ l.drop j) true])) :
    EntS E f [.fx (.own t 0 false), .d (.int .i64), .d (.int .i64)] [.arr t true] [⟨false, ⟨[(0, .fx (.own t 1 false))], [.gone, .arr t true]⟩⟩] (fun q : (Int × Int) × List t.den => lib_Delete q) := by
  intro (q : (Int × Int) × List t.den) y hy
  obtain ⟨⟨i, j⟩, l⟩ := q
  change (if 0 ≤ i ∧ i < j ∧ j ≤ (l.length : Int) then some (l.take i.toNat ++ l.drop j.toNat) else none) = some y at hy
  split at hy
  · rename_i hs
    cases hy
    obtain ⟨i, rfl⟩ := Int.eq_ofNat_of_zero_le hs.1
    obtain ⟨j, rfl⟩ := Int.eq_ofNat_of_zero_le (show 0 ≤ j by omega)
    exact c l i j false (by omega) (by omega)
  · cases hy

/-! ### octet.Hex (proved at each program by a walk over the shelf's builder), strings.IndexByte -/
end
end Go.AM
