import Derived.Test.YtjmmcdbogbpedaaGreatDoorRGPartP
import Derived.Test.YtjmmcdbogbpedaaGreatDoorBMSeq
namespace Go.AM
noncomputable def qz:Str→Option Bool:=ui Plain.z0l
end Go.AM
