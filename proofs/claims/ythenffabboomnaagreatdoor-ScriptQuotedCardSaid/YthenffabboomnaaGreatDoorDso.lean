import Derived.Shelf.SlSortCmp.SmallK
import Derived.Test.YthenffabboomnaaGreatDoorProg
set_option linter.all false
set_option maxHeartbeats 8000000
set_option maxRecDepth 100000
namespace Go.Proofs
end Go.Proofs
