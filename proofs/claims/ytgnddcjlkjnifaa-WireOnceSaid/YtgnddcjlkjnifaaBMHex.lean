/-
  Bytes in digits.
-/
import Derived.Test.YtgnddcjlkjnifaaBMDom
namespace Go.AM
end Go.AM
