import Derived.Test.YtjmmcdbogbpedaaGreatDoorRGEnv
import Derived.Test.YtjmmcdbogbpedaaGreatDoorRGPartP
import Derived.Test.YtjmmcdbogbpedaaGreatDoorRGHex
import Derived.Shelf.Strings.SlTrimAscii
noncomputable section
namespace Go.Proofs.Tryz
open Go.AM Go.Plain
instance:EnvK E:=⟨envOK⟩
set_option linter.unusedVariables false
set_option maxRecDepth 100000
def q8y:SE E:=mF 128 f128 [D0m] [] F01 z27 [] [] []
def q2x:SC E f108 0:=mL 4 ⟨[(8,D00),(3,D00),(0,D02),(7,D00)],[]⟩ [⟨.ret,U04⟩,⟨.exit 0,⟨[(3,D00),(0,D02)],[]⟩⟩] qdj [4] [q8y] []
def jb6:SE E:=mF 108 f108 [D02] [] F01 z0l [4] [] [q2x]
end Go.Proofs.Tryz
