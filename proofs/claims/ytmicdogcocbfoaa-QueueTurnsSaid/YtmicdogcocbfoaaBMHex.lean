/-
  Bytes in digits.
-/
import Derived.Test.YtmicdogcocbfoaaBMDom
namespace Go.AM
end Go.AM
