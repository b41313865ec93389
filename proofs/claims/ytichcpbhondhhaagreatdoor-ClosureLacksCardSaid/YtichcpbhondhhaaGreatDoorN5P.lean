import Derived.Test.YtichcpbhondhhaaGreatDoorBMLib
import Derived.Test.YtichcpbhondhhaaGreatDoorTKeys
import Derived.Test.YtichcpbhondhhaaGreatDoorT4P
import Derived.Test.YtichcpbhondhhaaGreatDoorM5P
namespace Go.Plain
open Go.AM
set_option linter.unusedVariables false
end Go.Plain
