/- graph.Prune of a wrong program: it tells that there is none. -/
import Derived.Test.YthhjlbflpjhahaaGreatDoorPruneZ
import Derived.Test.YthhjlbflpjhahaaGreatDoorJoinQZ
import Derived.Test.YthhjlbflpjhahaaGreatDoorGraphZ
namespace Go.Proofs.YthhjlbflpjhahaaGreatDoor
open Go.RowKit
set_option maxRecDepth 100000
set_option maxHeartbeats 1000000 in
theorem lawJoined_calls{W w:World}{fv:Value}{F:PFunc}(hU:Uni W)(hF:FnV W W.heap.size fv F)(hW:Below W.heap.size W w)(hL:lawT F=true) :
 Calls Tryz.prog 16 #[fv] w fun e w'=>e=.returned (.bool (refJoinB F))∧Below w.heap.size w w':=by
 have hty:=fun(w:World) (h:Below W.heap.size W w)=>lawTyped_calls hU hF h
 have hT:typedP F=true:=by unfold lawT at hL;simp at hL;exact hL.2
 have hjn:=fun(w:World) (h:Below W.heap.size W w)=>refJoined_calls hF h hT
 rw[hL]at hty;have hWs:=hW.size;obtain⟨A0,c0,A1,c1,A2,c2,rfl,-⟩:=id hF.open_;clear hT hL;go_enter Tryz.func16,Tryz.ntmps16;go_wp2_with(first|(go_at_call 12;refine(hty _ BL).mono ?_;(rintro e w1 ⟨rfl,hb1⟩;obtain⟨hc1,hf1⟩:=bcell hb1;have hz1:=hb1.size;try simp at hz1;try have hy1:=Nl hz1;try have hx1:=Ns hy1;try have hw1:=Ns hx1))|(go_at_call 20;refine(hjn _ BL).mono ?_;(rintro e w2 ⟨rfl,hb2⟩;obtain⟨hc2,hf2⟩:=bcell hb2;have hz2:=hb2.size;try simp at hz2;try have hy2:=Nl hz2;try have hx2:=Ns hy2;try have hw2:=Ns hx2)));go_ret;exact⟨rfl,BL⟩
set_option maxHeartbeats 1000000 in
theorem lawJoinedNo_calls{W w:World}{fv:Value}{F:PFunc}(hU:Uni W)(hF:FnV W W.heap.size fv F)(hW:Below W.heap.size W w)(hL:lawT F=false) :
 Calls Tryz.prog 16 #[fv] w fun e w'=>e=.returned (.bool false)∧Below w.heap.size w w':=by
 have hty:=fun(w:World) (h:Below W.heap.size W w)=>lawTyped_calls hU hF h
 rw[hL]at hty;have hWs:=hW.size;obtain⟨A0,c0,A1,c1,A2,c2,rfl,-⟩:=id hF.open_;clear hL;go_enter Tryz.func16,Tryz.ntmps16;go_wp2_with(go_at_call 12;refine(hty _ BL).mono ?_;(rintro e w1 ⟨rfl,hb1⟩;obtain⟨hc1,hf1⟩:=bcell hb1;have hz1:=hb1.size;try simp at hz1;try have hy1:=Nl hz1;try have hx1:=Ns hy1;try have hw1:=Ns hx1));go_ret;exact⟨rfl,BL⟩
end Go.Proofs.YthhjlbflpjhahaaGreatDoor
