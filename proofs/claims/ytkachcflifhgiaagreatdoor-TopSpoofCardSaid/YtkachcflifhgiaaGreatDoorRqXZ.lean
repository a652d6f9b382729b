/-  -/
import Derived.Test.YtkachcflifhgiaaGreatDoorM09
import Derived.Test.YtkachcflifhgiaaGreatDoorM05
set_option linter.unusedVariables false
set_option maxRecDepth 100000
set_option maxHeartbeats 16000000
namespace Go.Proofs.YtkachcflifhgiaaGreatDoor
open Go Go.RowKit
end Go.Proofs.YtkachcflifhgiaaGreatDoor
