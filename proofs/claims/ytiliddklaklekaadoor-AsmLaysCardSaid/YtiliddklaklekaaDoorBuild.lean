
/- strings.Builder at this program: copyCheck and WriteByte walked (the shelf's own do not lie at this dump), String by the shelf's contract. -/
import Derived.Shelf.Strings.Builder1
import Derived.Test.YtiliddklaklekaaDoorBase
import Derived.Test.YtiliddklaklekaaDoorProg
namespace Go.Proofs.YtiliddklaklekaaDoor
open Go.Shelf Go.RowKit

end Go.Proofs.YtiliddklaklekaaDoor
