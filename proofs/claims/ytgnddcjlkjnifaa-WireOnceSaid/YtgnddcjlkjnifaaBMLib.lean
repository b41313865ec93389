/-
  BM, part 40: contracts of the library's functions (laid elsewhere, over the machine's worlds) as entries.
-/
import Derived.Test.YtgnddcjlkjnifaaBMDefer
import Derived.Test.YtgnddcjlkjnifaaBMHex
import Derived.Below
import Derived.Sort.Grow
import Derived.Deep.Draws
import Derived.Lib.LaidTab
import Derived.Lib.IndexMore
import Derived.Lib.ItoaNum
import Derived.Lib.Join
import Derived.Lib.Repeat
import Derived.Lib.Split
import Derived.Lib.SplitLaws
import Derived.Lib.SlTrimSet
namespace Go.AM
set_option linter.unusedSectionVars false
variable [Lay]
open Go.RowKit Go.Sort

section
variable {E : Env} {w w' : World} {I : Nat → Nat → Prop} {h : Heap} {μ : Nat → Option Nat}

/-- What an entry says. -/
def EntS (E : Env) (f : FuncId) (ins : List Sh) (hin : List BSh) (outs : List FA) (G : (tpair (Sh.ty.tyL ins) (tyH hin)).den → Option (dAlts (tysF outs))) : Prop := ∀ x y, G x = some y → EntP E f ins hin outs x y

/-! ### strings.Cut -/
/-! ### strconv.Itoa -/
/-! ### strings.Join -/
/-! ### strings.TrimLeft at an ASCII cutset -/
/-! ### slices.Clone -/
noncomputable def lib_Clone {α : Type} : List α → Option (List α) := fun l => if l.length ≤ 4294967296 then some l else none
theorem k_Clone {t : Ty} {f : FuncId} (c : ∀ l : List t.den, l.length ≤ 4294967296 → ACall E f [.sl t l false] [] (fun r h' => r = .ret (.own t 0 false) ∧ h' = [.arr t l true])) :
    EntS E f [.d (.sl t)] [] [⟨false, ⟨[(0, .fx (.own t 0 false))], [.arr t true]⟩⟩] (fun q : List t.den => lib_Clone q) := by
  intro x y hy
  change (if List.length x ≤ 4294967296 then some x else none) = some y at hy
  split at hy
  · rename_i hs
    cases hy
    exact c x hs
  · cases hy

/-! ### slices.Delete -/
noncomputable def lib_Delete {α : Type} : ((Int × Int) × List α) → Option (List α) := fun q => if 0 ≤ q.1.1 ∧ q.1.1 < q.1.2 ∧ q.1.2 ≤ (q.2.length : Int) then some (q.2.take q.1.1.toNat ++ q.2.drop q.1.2.toNat) else none
theorem k_Delete {t : Ty} {f : FuncId} (c : ∀ (l : List t.den) (i j : Nat) (full : Bool), i < j → j ≤ l.length →
      ACall E f [.own t 0 full, .int .i64 i, .int .i64 j] [.arr t l true] (fun r h' => r = .ret (.own t 1 false) ∧ h' = [.gone, .arr t (l.take i ++ l.drop j) true])) :
    EntS E f [.fx (.own t 0 false), .d (.int .i64), .d (.int .i64)] [.arr t true] [⟨false, ⟨[(0, .fx (.own t 1 false))], [.gone, .arr t true]⟩⟩] (fun q : (Int × Int) × List t.den => lib_Delete q) := by
  intro (q : (Int × Int) × List t.den) y hy
  obtain ⟨⟨i, j⟩, l⟩ := q
  change (if 0 ≤ i ∧ i < j ∧ j ≤ (l.length : Int) then some (l.take i.toNat ++ l.drop j.toNat) else none) = some y at hy
  split at hy
  · rename_i hs
    cases hy
    obtain ⟨i, rfl⟩ := Int.eq_ofNat_of_zero_le hs.1
    obtain ⟨j, rfl⟩ := Int.eq_ofNat_of_zero_le (show 0 ≤ j by omega)
    exact c l i j false (by omega) (by omega)
  · cases hy

/-! ### octet.Hex (proved at each program by a walk over the shelf's builder), strings.IndexByte -/
/-- A map that is handed out, and written no more. -/
theorem ACall.fmap {f : FuncId} {args : List AV} {k v : Ty} {l : List (k.den × v.den)} (hk : isKey k = true) (c : ACall E f args [] (fun r h' => r = .ret (.mptr 0) ∧ h' = [.mp k v l])) :
    ACall E f args [] (fun r h' => r = .ret (.fmap k v l) ∧ h' = []) := by
  unfold ACall at c ⊢
  obtain ⟨en, c⟩ := c
  refine ⟨en, fun w I μ vs R hv => (c w I μ vs R hv).mono ?_⟩
  rintro e w' ⟨r, h', I', μ', ⟨rfl, rfl⟩, he, R', F, M⟩
  cases e with
  | returned u =>
    cases he with
    | mptr _ g hp =>
      obtain ⟨x, hx, _, h2⟩ := hp
      have hx : some (AB.mp k v l) = some x := hx
      cases hx
      have hg := h2 (by simp)
      have hm : MpAt w' I' μ' 0 k v l := R'.blk 0 _ rfl
      rw [MpAt.of hk] at hm
      obtain ⟨g', es, cl, k1, k2, k3⟩ := hm
      rw [hg] at k1; cases k1
      obtain ⟨I2, R2, F2, M2, hI⟩ := R'.freezeMap (i := 0) rfl hg
      have F3 := F.trans F2
      refine ⟨.ret (.fmap k v l), [], I2, μ', ⟨rfl, rfl⟩, .fmap k v l g es cl hI k2 k3, ?_, ?_, ?_⟩
      · refine ⟨fun i j x y g hi => by simp at hi, fun i x g hi => by simp at hi, fun i x hi => by simp at hi, ?_, R2.ilt, R2.laid⟩
        rintro q o _ ⟨i, _, hx⟩
        rcases hx with ⟨_, hx⟩ | ⟨_, _, hx⟩ | ⟨_, _, hx, _⟩ | ⟨_, _, _, hx⟩ <;> simp at hx
      · refine ⟨F3.os, F3.tape, F3.output, F3.size, F3.same, F3.part, F3.nf, ?_, F3.im, F3.im'⟩
        rintro q o ⟨i, _, hx⟩
        rcases hx with ⟨_, hx⟩ | ⟨_, _, hx⟩ | ⟨_, _, hx, _⟩ | ⟨_, _, _, hx⟩ <;> simp at hx
      · exact ⟨fun b x hb => by simp at hb, fun b x y hb => by simp at hb⟩
  | _ => exact he.elim
/-! ### strings.Repeat, strings.Split, strings.CutPrefix -/
end
end Go.AM
