/- The walk of the law's Joined, of any program. -/
import Derived.Test.YthhjlbflpjhahaaGreatDoorPruneNZ
namespace Go.Proofs.YthhjlbflpjhahaaGreatDoor
open Go.RowKit
set_option maxRecDepth 100000
theorem lawJ_val{W w:World}{fv:Value}{F:PFunc}(hU:Uni W)(hF:FnV W W.heap.size fv F)(hW:Below W.heap.size W w) :
 Calls Tryz.prog 16 #[fv] w fun e w'=>e=.returned (.bool (lawT F&&joinedB F))∧Below w.heap.size w w':=by
 cases hL:lawT F
 · exact lawJoinedNo_calls hU hF hW hL
 · have hT:typedP F=true:=by unfold lawT at hL;simp at hL;exact hL.2
   rw[Bool.true_and,join_eq hT];exact lawJoined_calls hU hF hW hL
end Go.Proofs.YthhjlbflpjhahaaGreatDoor
