/- graph.Prune of a wrong program: it tells that there is none. -/
import Derived.Test.YthhjlbflpjhahaaGreatDoorPruneZ
import Derived.Test.YthhjlbflpjhahaaGreatDoorJoinQZ
import Derived.Test.YthhjlbflpjhahaaGreatDoorGraphZ
namespace Go.Proofs.YthhjlbflpjhahaaGreatDoor
open Go.RowKit
set_option maxRecDepth 100000
set_option maxHeartbeats 4000000 in
theorem pruneNo_calls{W w:World}{fv:Value}{F:PFunc}(hU:Uni W)(hF:FnV W W.heap.size fv F)(hW:Below W.heap.size W w)(hS:Small F)(hT:typedP F=false) :
 Calls Tryz.prog 40 #[fv] w fun e w'=>e=.returned (.tuple #[.agg #[.slice none 0 0,.slice none 0 0,.slice none 0 0],.int .i64 3])∧Below w.heap.size w w':=by
 have hWs:=hW.size;have hrt:=fun(w':World) (h:Below W.heap.size W w')=>right_calls hU hF h hS
 rw[hT]at hrt;obtain⟨A0,c0,A1,c1,A2,c2,rfl,-⟩:=id hF.open_;obtain⟨w3,hw3⟩:∃w3:World,w3=(w.alloc (.cells #[.slice A0 F.vars.length c0,.slice A1 F.params.length c1,.slice A2 F.blocks.length c2] 26)).alloc (.cells #[.slice none 0 0,.slice none 0 0,.slice none 0 0] 26):=⟨_,rfl⟩;have hb3:Below w.heap.size w w3:=by rw[hw3];exact BL
 have x1:BoxAt w3 (w.heap.size+1) #[.slice none 0 0,.slice none 0 0,.slice none 0 0] 26:=by
  rw[hw3];have:=BoxAt.new (w.alloc (.cells #[.slice A0 F.vars.length c0,.slice A1 F.params.length c1,.slice A2 F.blocks.length c2] 26)) #[.slice none 0 0,.slice none 0 0,.slice none 0 0] 26;simpa using this
 have hW3:=hW.trans (hb3.mono hWs);clear hT hU hS hF;go_enter Tryz.func40,Tryz.ntmps40
 go_upto_region 1 with fail
 go_wp2_with(go_at_call 63;rw[← hw3];refine(hrt _ hW3).mono ?_;rintro e w4 ⟨rfl,hb4⟩;clear hw3;have hr8:=x1.below hb4 x1.lt;have e0:=hr8.cell 0;have e1:=hr8.cell 1;have e2:=hr8.cell 2;have f0:=hr8.frozen 0;have f1:=hr8.frozen 1;have f2:=hr8.frozen 2;have el:=hr8.lt;simp at e0 e1 e2);have hB8:=hb3.trans (hb4.mono hb3.size);have hz:=hr8.set3 (a:=.slice none 0 0) (b:=.slice none 0 0) (c:=.slice none 0 0);have z0:=hz.cell 0;have z1:=hz.cell 1;have z2:=hz.cell 2;simp only[List.getElem?_toArray,List.getElem?_cons_zero,List.getElem?_cons_succ]at z0 z1 z2;have hBz:=((hB8.setCell (p:=⟨w.heap.size+1,0,none⟩) ZS (.slice none 0 0)).setCell (p:=⟨w.heap.size+1,1,none⟩) ZS (.slice none 0 0)).setCell (p:=⟨w.heap.size+1,2,none⟩) ZS (.slice none 0 0);exact bodyPost_ret (v:=.tuple #[.agg #[.slice none 0 0,.slice none 0 0,.slice none 0 0],.int .i64 3]) (by simp[results,Tryz.results40,go_sem,z0,z1,z2]) rfl ⟨rfl,hBz⟩
set_option maxHeartbeats 1000000 in
theorem lawJoined_calls{W w:World}{fv:Value}{F:PFunc}(hU:Uni W)(hF:FnV W W.heap.size fv F)(hW:Below W.heap.size W w)(hL:lawT F=true) :
 Calls Tryz.prog 16 #[fv] w fun e w'=>e=.returned (.bool (refJoinB F))∧Below w.heap.size w w':=by
 have hty:=fun(w:World) (h:Below W.heap.size W w)=>lawTyped_calls hU hF h
 have hT:typedP F=true:=by unfold lawT at hL;simp at hL;exact hL.2
 have hjn:=fun(w:World) (h:Below W.heap.size W w)=>refJoined_calls hF h hT
 rw[hL]at hty;have hWs:=hW.size;obtain⟨A0,c0,A1,c1,A2,c2,rfl,-⟩:=id hF.open_;clear hT hL;go_enter Tryz.func16,Tryz.ntmps16;go_wp2_with(first|(go_at_call 12;refine(hty _ BL).mono ?_;(rintro e w1 ⟨rfl,hb1⟩;obtain⟨hc1,hf1⟩:=bcell hb1;have hz1:=hb1.size;try simp at hz1;try have hy1:=Nl hz1;try have hx1:=Ns hy1;try have hw1:=Ns hx1))|(go_at_call 20;refine(hjn _ BL).mono ?_;(rintro e w2 ⟨rfl,hb2⟩;obtain⟨hc2,hf2⟩:=bcell hb2;have hz2:=hb2.size;try simp at hz2;try have hy2:=Nl hz2;try have hx2:=Ns hy2;try have hw2:=Ns hx2)));go_ret;exact⟨rfl,BL⟩
set_option maxHeartbeats 1000000 in
theorem lawJoinedNo_calls{W w:World}{fv:Value}{F:PFunc}(hU:Uni W)(hF:FnV W W.heap.size fv F)(hW:Below W.heap.size W w)(hL:lawT F=false) :
 Calls Tryz.prog 16 #[fv] w fun e w'=>e=.returned (.bool false)∧Below w.heap.size w w':=by
 have hty:=fun(w:World) (h:Below W.heap.size W w)=>lawTyped_calls hU hF h
 rw[hL]at hty;have hWs:=hW.size;obtain⟨A0,c0,A1,c1,A2,c2,rfl,-⟩:=id hF.open_;clear hL;go_enter Tryz.func16,Tryz.ntmps16;go_wp2_with(go_at_call 12;refine(hty _ BL).mono ?_;(rintro e w1 ⟨rfl,hb1⟩;obtain⟨hc1,hf1⟩:=bcell hb1;have hz1:=hb1.size;try simp at hz1;try have hy1:=Nl hz1;try have hx1:=Ns hy1;try have hw1:=Ns hx1));go_ret;exact⟨rfl,BL⟩
end Go.Proofs.YthhjlbflpjhahaaGreatDoor
