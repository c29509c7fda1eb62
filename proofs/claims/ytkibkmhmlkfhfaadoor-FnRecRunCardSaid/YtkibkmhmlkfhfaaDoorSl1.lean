/- Slices of ints and of bools: copies, comparisons. -/
import Derived.Test.YtkibkmhmlkfhfaaDoorProg
import Derived.Test.YtkibkmhmlkfhfaaDoorSl
namespace Go.Proofs.YtkibkmhmlkfhfaaDoor
open Go.RowKit Go.ChangeShapes Go.WideShapes Go.Deep
set_option linter.unusedSimpArgs false
set_option linter.unusedVariables false
end Go.Proofs.YtkibkmhmlkfhfaaDoor
