/-
  Plain facts of the printed functions of layer 4: words and their order.
-/
import Derived.Test.YtmicdogcocbfoaaT4P
import Derived.IntWalk
namespace Go.Plain
open Go.AM

theorem wr64 {n : Int} (h : -9223372036854775808 ≤ n ∧ n ≤ 9223372036854775807) : IntKind.wrap .i64 n = n := Go.IntWalk.i64_in n h
end Go.Plain

/-
  Plain facts of the printed functions of layer 4: names.
-/
namespace Go.Plain
open Go.AM

theorem sb {α β : Type} (a : α) (f : α → Option β) : (some a >>= f) = f a := rfl

end Go.Plain
