import Derived.Test.YtjmmcdbogbpedaaGreatDoorRGPartP
import Derived.Test.YtjmmcdbogbpedaaGreatDoorBMSeq
namespace Go.AM
noncomputable def jo:Str→Option Bool:=qaz Plain.z16
end Go.AM
