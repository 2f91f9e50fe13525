/- graph.Order, graph.Preds, graph.Joined of a program without phis; the laws' own Typed. -/
import Derived.Test.YthhjlbflpjhahaaGreatDoorPredsZ
import Derived.Test.YthhjlbflpjhahaaGreatDoorFewQZ
import Derived.Test.YthhjlbflpjhahaaGreatDoorRefBZ
import Derived.Test.YthhjlbflpjhahaaGreatDoorRefTZ
import Derived.Test.YthhjlbflpjhahaaGreatDoorTypedZ
namespace Go.Proofs.YthhjlbflpjhahaaGreatDoor
open Go.RowKit
set_option maxRecDepth 100000
theorem Ymr{W w:World}{fv:Value}{F:PFunc}(hU:Uni W)(hF:FnV W W.heap.size fv F)(hW:Below W.heap.size W w)(hS:Yav F)(hT:Yd F=true) :
 Calls Tryz.prog 105 #[fv] w (RetInts w (ints (postO F).reverse)):=by
 have hr:=fun(w:World) (h:Below W.heap.size W w)=>YdL hU hF h hS
 have ho:=fun(w:World) (h:Below W.heap.size W w)=>Yhn hF h hT
 rw[hT]at hr;have hWs:=hW.size;obtain⟨A0,c0,A1,c1,A2,c2,rfl,-⟩:=id hF.open_;clear hT;generalize ints (postO F).reverse=L at *;go_enter Tryz.func105,Tryz.ntmps105;go_wp2_with(first|(go_at_call 63;refine(hr _ BL).mono ?_;(rintro e w1 ⟨rfl,hb1⟩;obtain⟨hc1,hf1⟩:=Yb hb1;have hz1:=hb1.size;try simp at hz1;try have hy1:=Nl hz1;try have hx1:=Ns hy1;try have hw1:=Ns hx1))|(go_at_call 96;refine(ho _ BL).mono ?_;(rintro e w2 ⟨A2,c2,rfl,l2,k2,r2,hb2⟩;obtain⟨hc2,hf2⟩:=Yb hb2;have hz2:=hb2.size;try simp at hz2;try have hy2:=Nl hz2;try have hx2:=Ns hy2;try have hw2:=Ns hx2)));go_ret;exact⟨_,_,rfl,l2,k2,r2,BL⟩
theorem Yms{W w:World}{fv:Value}{F:PFunc}(hU:Uni W)(hF:FnV W W.heap.size fv F)(hW:Below W.heap.size W w)(hS:Yav F)(hT:Yd F=true) :
 Calls Tryz.prog 36 #[fv] w (YfM w (Ybu F)):=by
 have hr:=fun(w:World) (h:Below W.heap.size W w)=>YdL hU hF h hS
 have ho:=fun(w:World) (h:Below W.heap.size W w)=>YhA hF h hT
 rw[hT]at hr;have hWs:=hW.size;obtain⟨A0,c0,A1,c1,A2,c2,rfl,-⟩:=id hF.open_;clear hT;generalize Ybu F=L at *;go_enter Tryz.func36,Tryz.ntmps36;go_wp2_with(first|(go_at_call 63;refine(hr _ BL).mono ?_;(rintro e w1 ⟨rfl,hb1⟩;obtain⟨hc1,hf1⟩:=Yb hb1;have hz1:=hb1.size;try simp at hz1;try have hy1:=Nl hz1;try have hx1:=Ns hy1;try have hw1:=Ns hx1))|(go_at_call 64;refine(ho _ BL).mono ?_;(rintro e w2 ⟨A2,c2,rfl,l2,k2,r2,hb2⟩;obtain⟨hc2,hf2⟩:=Yb hb2;have hz2:=hb2.size;try simp at hz2;try have hy2:=Nl hz2;try have hx2:=Ns hy2;try have hw2:=Ns hx2)));go_ret;exact⟨_,_,rfl,l2,k2,r2,BL⟩
theorem Ymt{W w:World}{fv:Value}{F:PFunc}(hU:Uni W)(hF:FnV W W.heap.size fv F)(hW:Below W.heap.size W w)(hS:Yav F) :
 Calls Tryz.prog 46 #[fv] w fun e w'=>e=.returned (.bool (Yk F))∧Below w.heap.size w w':=by
 have hr:=fun(w:World) (h:Below W.heap.size W w)=>Yml hU hF h hS
 have hWs:=hW.size;obtain⟨A0,c0,A1,c1,A2,c2,rfl,-⟩:=id hF.open_;go_enter Tryz.func46,Tryz.ntmps46;go_wp2_with(go_at_call 74;refine(hr _ BL).mono ?_;(rintro e w1 ⟨rfl,hb1⟩;obtain⟨hc1,hf1⟩:=Yb hb1;have hz1:=hb1.size;try simp at hz1;try have hy1:=Nl hz1;try have hx1:=Ns hy1;try have hw1:=Ns hx1));go_ret;exact⟨rfl,BL⟩
theorem Yh5{W w:World}{fv:Value}{F:PFunc}(hU:Uni W)(hF:FnV W W.heap.size fv F)(hW:Below W.heap.size W w)(hS:Yav F) :
 Calls Tryz.prog 19 #[fv] w fun e w'=>e=.returned (.bool (Yd F))∧Below w.heap.size w w':=by
 have hs:=fun(w:World) (h:Below W.heap.size W w)=>Ymt hU hF h hS
 have hWs:=hW.size;cases hx:Yk F
 · have HF:=Lh (show Yd F=false by rw[Yd,hx];rfl)
   obtain⟨A0,c0,A1,c1,A2,c2,rfl,-⟩:=id hF.open_;rw[hx]at hs;clear hx;go_enter Tryz.func19,Tryz.ntmps19;go_wp2_with(go_at_call 46;refine(hs _ BL).mono ?_;(rintro e w1 ⟨rfl,hb1⟩;obtain⟨hc1,hf1⟩:=Yb hb1;have hz1:=hb1.size;try simp at hz1;try have hy1:=Nl hz1;try have hx1:=Ns hy1;try have hw1:=Ns hx1));go_ret;exact⟨Ya HF.out.symm,BL⟩
 · have HF:=Lh (show Yd F=F.blocks.all (blkT F) by rw[Yd,hx];rfl)
   have ht:=fun(w:World) (h:Below W.heap.size W w)=>Ymq hF h hx
   obtain⟨A0,c0,A1,c1,A2,c2,rfl,-⟩:=id hF.open_;rw[hx]at hs;clear hx;go_enter Tryz.func19,Tryz.ntmps19;go_wp2_with(first|(go_at_call 46;refine(hs _ BL).mono ?_;(rintro e w1 ⟨rfl,hb1⟩;obtain⟨hc1,hf1⟩:=Yb hb1;have hz1:=hb1.size;try simp at hz1;try have hy1:=Nl hz1;try have hx1:=Ns hy1;try have hw1:=Ns hx1))|(go_at_call 47;refine(ht _ BL).mono ?_;(rintro e w2 ⟨rfl,hb2⟩;obtain⟨hc2,hf2⟩:=Yb hb2;have hz2:=hb2.size;try simp at hz2;try have hy2:=Nl hz2;try have hx2:=Ns hy2;try have hw2:=Ns hx2)));go_ret;exact⟨Ya (by rw[HF.out]),BL⟩
def Ybp(F:PFunc):Bool:=YF F&&Yd F
theorem Ymu{W w:World}{fv:Value}{F:PFunc}(hU:Uni W)(hF:FnV W W.heap.size fv F)(hW:Below W.heap.size W w) :
 Calls Tryz.prog 12 #[fv] w fun e w'=>e=.returned (.bool (Ybp F))∧Below w.heap.size w w':=by
 have hs:=fun(w:World) (h:Below W.heap.size W w)=>Ymk hF h
 have hWs:=hW.size;cases hx:YF F
 · have HF:=Lh (show Ybp F=false by rw[Ybp,hx];rfl)
   obtain⟨A0,c0,A1,c1,A2,c2,rfl,-⟩:=id hF.open_;rw[hx]at hs;clear hx;go_enter Tryz.func12,Tryz.ntmps12;go_wp2_with(go_at_call 11;refine(hs _ BL).mono ?_;(rintro e w1 ⟨rfl,hb1⟩;obtain⟨hc1,hf1⟩:=Yb hb1;have hz1:=hb1.size;try simp at hz1;try have hy1:=Nl hz1;try have hx1:=Ns hy1;try have hw1:=Ns hx1));go_ret;exact⟨Ya HF.out.symm,BL⟩
 · have HF:=Lh (show Ybp F=Yd F by rw[Ybp,hx];rfl)
   have ht:=fun(w:World) (h:Below W.heap.size W w)=>Yh5 hU hF h (Ydo hx)
   obtain⟨A0,c0,A1,c1,A2,c2,rfl,-⟩:=id hF.open_;rw[hx]at hs;clear hx;go_enter Tryz.func12,Tryz.ntmps12;go_wp2_with(first|(go_at_call 11;refine(hs _ BL).mono ?_;(rintro e w1 ⟨rfl,hb1⟩;obtain⟨hc1,hf1⟩:=Yb hb1;have hz1:=hb1.size;try simp at hz1;try have hy1:=Nl hz1;try have hx1:=Ns hy1;try have hw1:=Ns hx1))|(go_at_call 19;refine(ht _ BL).mono ?_;(rintro e w2 ⟨rfl,hb2⟩;obtain⟨hc2,hf2⟩:=Yb hb2;have hz2:=hb2.size;try simp at hz2;try have hy2:=Nl hz2;try have hx2:=Ns hy2;try have hw2:=Ns hx2)));go_ret;exact⟨Ya (by rw[HF.out]),BL⟩
theorem Ymv{α:Type}{B:Nat}{sz:Nat}{R:Nat→Nat→α→Prop}:Sl B (.slice none 0 0) ([]:List α) sz R:=⟨none,0,rfl,by simp[Len],Nr _,fun i x hx=>by simp at hx⟩
end Go.Proofs.YthhjlbflpjhahaaGreatDoor
