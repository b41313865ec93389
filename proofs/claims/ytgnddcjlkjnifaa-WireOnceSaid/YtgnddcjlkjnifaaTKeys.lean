/-
  The table of package digest: the round constants.
-/
import Derived.Test.YtgnddcjlkjnifaaBMLib
namespace Go.Plain
end Go.Plain
