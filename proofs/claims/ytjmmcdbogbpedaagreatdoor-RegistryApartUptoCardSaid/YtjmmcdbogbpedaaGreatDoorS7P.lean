import Derived.Test.YtjmmcdbogbpedaaGreatDoorBMLib
import Derived.Test.YtjmmcdbogbpedaaGreatDoorPrn
namespace Go.Plain
open Go.AM
set_option linter.unusedVariables false
end Go.Plain
