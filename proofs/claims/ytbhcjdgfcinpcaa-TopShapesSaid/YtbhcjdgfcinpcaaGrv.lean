/- Contract: the error of a mesh, of the reference. Conditions: the lists' lengths are ints. -/
import Derived.Test.YtbhcjdgfcinpcaaGva
import Derived.Test.YtbhcjdgfcinpcaaGrq
namespace Go.Proofs.Ytbhcjdgfcinpcaa
set_option linter.unusedVariables false
set_option linter.unusedSimpArgs false
open Go.RowKit Go.Maps
end Go.Proofs.Ytbhcjdgfcinpcaa
