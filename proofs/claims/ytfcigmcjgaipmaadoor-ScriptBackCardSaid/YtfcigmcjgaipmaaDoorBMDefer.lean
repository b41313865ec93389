/-
  BM, part 41: a function that puts off one closure, which recovers.
-/
import Derived.Test.YtfcigmcjgaipmaaDoorBMFix
import Derived.Defers
import Derived.Recover
import Derived.WideLaws
namespace Go.AM
set_option linter.unusedSectionVars false
variable [Lay]

section
variable {E : Env} {F : Fp} {w : World} {I : Nat → Nat → Prop} {h : Heap} {μ : Nat → Option Nat} {fin : AX → Slots → Heap → Prop}

theorem SR.off {w0 : World} {I0 : Nat → Nat → Prop} {μ0 : Nat → Option Nat} {h0 : Heap} {a : Act} {s : Slots} (S : SR F w0 I0 μ0 h0 w I μ h a s) (d : Deferred) :
    @SR _ ⟨[d]⟩ ⟨F.nt, h.length, F.jn⟩ w I μ h w I μ h { a with defers := [d] } s :=
  @SR.mk _ ⟨[d]⟩ _ _ _ _ _ _ _ _ _ _ _ S.rel (Fr.refl _ _ _) (HM.refl _ _) S.slots S.nt rfl

end
end Go.AM
