/- Contracts of wide.MulDiv and of the reference of the layer wide. -/
import Derived.Test.YtfabgfenelaheaaWideDiv
set_option linter.unusedVariables false
namespace Go.Proofs.Ytfabgfenelaheaa
open Go.RowKit

attribute [local go_sem] ite_min ite_max

end Go.Proofs.Ytfabgfenelaheaa
