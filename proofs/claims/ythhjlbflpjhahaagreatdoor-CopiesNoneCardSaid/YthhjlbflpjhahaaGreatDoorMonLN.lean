/- A region that draws its order, makes memory alone, and ends in operations for which all others must be done: those may do anything and are walked one behind the other. -/
import Derived.Test.YthhjlbflpjhahaaGreatDoorNewPN
namespace Go.Proofs.YthhjlbflpjhahaaGreatDoor
open Go Go.RowKit
set_option maxRecDepth 100000
section
variable {P:Program} {Q:Exit→Act→World→Prop}
end
section
variable {P:Program} {Q:Exit→Act→World→Prop}
end
end Go.Proofs.YthhjlbflpjhahaaGreatDoor
