/- Contracts: points and panels, of the reference. No conditions but bounds on numbers. -/
import Derived.Test.YtldchncnadllpaaPan
namespace Go.Proofs.Ytldchncnadllpaa
set_option linter.unusedVariables false
set_option linter.unusedSimpArgs false
open Go.RowKit
end Go.Proofs.Ytldchncnadllpaa
