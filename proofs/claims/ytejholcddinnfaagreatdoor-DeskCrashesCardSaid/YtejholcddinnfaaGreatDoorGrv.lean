/- Contract: the error of a mesh, of the reference. Conditions: the lists' lengths are ints. -/
import Derived.Test.YtejholcddinnfaaGreatDoorGva
import Derived.Test.YtejholcddinnfaaGreatDoorGrq
namespace Go.Proofs.YtejholcddinnfaaGreatDoor
set_option linter.unusedVariables false
set_option linter.unusedSimpArgs false
open Go.RowKit Go.Maps
end Go.Proofs.YtejholcddinnfaaGreatDoor
