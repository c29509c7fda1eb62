/- Slices of ints and of bools: copies, comparisons. -/
import Derived.Test.YtcpopbkcphpdfaaDoorProg
import Derived.Test.YtcpopbkcphpdfaaDoorSl
namespace Go.Proofs.YtcpopbkcphpdfaaDoor
open Go.RowKit Go.ChangeShapes Go.WideShapes Go.Deep
set_option linter.unusedSimpArgs false
set_option linter.unusedVariables false
end Go.Proofs.YtcpopbkcphpdfaaDoor
