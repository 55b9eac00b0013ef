/- How the parameters' types of this seat's laws read. No conditions. -/
import Derived.Test.YtknkgponjjghcaaDoorPx0
import Derived.Test.YtknkgponjjghcaaDoorOpen
set_option linter.unusedVariables false
namespace Go.Proofs.YtknkgponjjghcaaDoor.P
open Go.RowKit Go.Proofs.YtknkgponjjghcaaDoor.Open Go.Proofs.YtknkgponjjghcaaDoorW.PrintWords
end Go.Proofs.YtknkgponjjghcaaDoor.P
