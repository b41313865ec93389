import Derived.Test.YtmicdogcocbfoaaBMLib
namespace Go.Plain
open Go.AM
set_option linter.unusedVariables false
end Go.Plain
