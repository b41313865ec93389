import Derived.Test.YtjmmcdbogbpedaaGreatDoorRGPartP
import Derived.Test.YtjmmcdbogbpedaaGreatDoorBMSeq
namespace Go.AM
noncomputable def kq:Str→Option Bool:=qa2 Plain.z14
end Go.AM
