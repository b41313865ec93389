import Derived.Test.YtjmmcdbogbpedaaGreatDoorRGEnv
import Derived.Test.YtjmmcdbogbpedaaGreatDoorRGPartP
import Derived.Test.YtjmmcdbogbpedaaGreatDoorRGHex
import Derived.Shelf.Strings.SlTrimAscii
noncomputable section
namespace Go.Proofs.Tryz
open Go.AM Go.Plain
instance:EnvK E:=⟨envOK⟩
set_option linter.unusedVariables false
set_option maxRecDepth 100000
def jif:SE E:=mF 128 f128 [D0l] [] F00 z39 [] [] []
def jbc:SC E f108 0:=mL 4 ⟨[(8,D00),(3,D00),(0,D02),(7,D00)],[]⟩ [⟨.ret,U01⟩,⟨.exit 0,U08⟩] qe9 [4] [jif] []
def jmg:SE E:=mF 108 f108 I00 [] F00 z16 [4] [] [jbc]
end Go.Proofs.Tryz
