/- The reference's Same: of two programs that are the same it says so. -/
import Derived.Test.YthhjlbflpjhahaaGreatDoorSlcZ
import Derived.Test.YthhjlbflpjhahaaGreatDoorRefRZ
import Derived.Laws.StructEq
namespace Go.Proofs.YthhjlbflpjhahaaGreatDoor
open Go.RowKit
set_option maxRecDepth 100000
end Go.Proofs.YthhjlbflpjhahaaGreatDoor
