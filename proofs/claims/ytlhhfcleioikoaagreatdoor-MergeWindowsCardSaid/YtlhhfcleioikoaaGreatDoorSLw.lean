/- The walk of the law's Single: is a program single, by the document? -/
import Derived.Test.YtlhhfcleioikoaaGreatDoorSRef
import Derived.Test.YtlhhfcleioikoaaGreatDoorGraph
namespace Go.Proofs.YtlhhfcleioikoaaGreatDoor
open Go.RowKit
set_option maxRecDepth 100000
end Go.Proofs.YtlhhfcleioikoaaGreatDoor
