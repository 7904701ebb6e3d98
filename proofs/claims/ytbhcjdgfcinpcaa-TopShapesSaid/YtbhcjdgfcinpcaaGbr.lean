/- Contract: boxes, of the reference. No conditions. -/
import Derived.Test.YtbhcjdgfcinpcaaGbl
namespace Go.Proofs.Ytbhcjdgfcinpcaa
set_option linter.unusedVariables false
set_option linter.unusedSimpArgs false
open Go.RowKit
end Go.Proofs.Ytbhcjdgfcinpcaa
