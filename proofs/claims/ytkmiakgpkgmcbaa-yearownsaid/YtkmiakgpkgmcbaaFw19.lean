/- The framework, part 19: a region that draws its order: one walk in the order of the text serves for all. -/
import Derived.Test.YtkmiakgpkgmcbaaFw18
namespace Go.Rx
set_option linter.unusedSectionVars false
open Go.RowKit

end Go.Rx

