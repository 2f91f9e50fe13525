/- graph.Order, graph.Preds, graph.Joined of a program without phis; the laws' own Typed. -/
import Derived.Test.YthhjlbflpjhahaaGreatDoorPredsN
import Derived.Test.YthhjlbflpjhahaaGreatDoorFewQN
import Derived.Test.YthhjlbflpjhahaaGreatDoorRefBN
import Derived.Test.YthhjlbflpjhahaaGreatDoorRefTN
import Derived.Test.YthhjlbflpjhahaaGreatDoorTypedN
namespace Go.Proofs.YthhjlbflpjhahaaGreatDoor
open Go.RowKit
set_option maxRecDepth 100000
theorem Yj9{W w:World}{fv:Value}{F:PFunc}(hU:Uni W)(hF:FnV W W.heap.size fv F)(hW:Below W.heap.size W w)(hS:Yag F)(hT:Yc F=true) :
 Calls Tryz.prog 105 #[fv] w (RetInts w (Yd (postO F).reverse)):=by
 have hr:=fun(w:World) (h:Below W.heap.size W w)=>YcP hU hF h hS
 have ho:=fun(w:World) (h:Below W.heap.size W w)=>YfJ hF h hT
 rw[hT]at hr;have hWs:=hW.size;obtain⟨A0,c0,A1,c1,A2,c2,rfl,-⟩:=id hF.open_;clear hT;generalize Yd (postO F).reverse=L at *;go_enter Tryz.func105,Tryz.ntmps105;go_wp2_with(first|(go_at_call 63;refine(hr _ BL).mono ?_;(rintro e w1 ⟨rfl,hb1⟩;obtain⟨hc1,hf1⟩:=Ya hb1;have hz1:=hb1.size;try simp at hz1;try have hy1:=Nl hz1;try have hx1:=Ns hy1;try have hw1:=Ns hx1))|(go_at_call 96;refine(ho _ BL).mono ?_;(rintro e w2 ⟨A2,c2,rfl,l2,k2,r2,hb2⟩;obtain⟨hc2,hf2⟩:=Ya hb2;have hz2:=hb2.size;try simp at hz2;try have hy2:=Nl hz2;try have hx2:=Ns hy2;try have hw2:=Ns hx2)));go_ret;exact⟨_,_,rfl,l2,k2,r2,BL⟩
theorem Yka{W w:World}{fv:Value}{F:PFunc}(hU:Uni W)(hF:FnV W W.heap.size fv F)(hW:Below W.heap.size W w)(hS:Yag F)(hT:Yc F=true) :
 Calls Tryz.prog 36 #[fv] w (Yeq w (Ya7 F)):=by
 have hr:=fun(w:World) (h:Below W.heap.size W w)=>YcP hU hF h hS
 have ho:=fun(w:World) (h:Below W.heap.size W w)=>YfW hF h hT
 rw[hT]at hr;have hWs:=hW.size;obtain⟨A0,c0,A1,c1,A2,c2,rfl,-⟩:=id hF.open_;clear hT;generalize Ya7 F=L at *;go_enter Tryz.func36,Tryz.ntmps36;go_wp2_with(first|(go_at_call 63;refine(hr _ BL).mono ?_;(rintro e w1 ⟨rfl,hb1⟩;obtain⟨hc1,hf1⟩:=Ya hb1;have hz1:=hb1.size;try simp at hz1;try have hy1:=Nl hz1;try have hx1:=Ns hy1;try have hw1:=Ns hx1))|(go_at_call 64;refine(ho _ BL).mono ?_;(rintro e w2 ⟨A2,c2,rfl,l2,k2,r2,hb2⟩;obtain⟨hc2,hf2⟩:=Ya hb2;have hz2:=hb2.size;try simp at hz2;try have hy2:=Nl hz2;try have hx2:=Ns hy2;try have hw2:=Ns hx2)));go_ret;exact⟨_,_,rfl,l2,k2,r2,BL⟩
theorem Ykb{W w:World}{fv:Value}{F:PFunc}(hU:Uni W)(hF:FnV W W.heap.size fv F)(hW:Below W.heap.size W w)(hS:Yag F) :
 Calls Tryz.prog 46 #[fv] w fun e w'=>e=.returned (.bool (Yf F))∧Below w.heap.size w w':=by
 have hr:=fun(w:World) (h:Below W.heap.size W w)=>Yj3 hU hF h hS
 have hWs:=hW.size;obtain⟨A0,c0,A1,c1,A2,c2,rfl,-⟩:=id hF.open_;go_enter Tryz.func46,Tryz.ntmps46;go_wp2_with(go_at_call 74;refine(hr _ BL).mono ?_;(rintro e w1 ⟨rfl,hb1⟩;obtain⟨hc1,hf1⟩:=Ya hb1;have hz1:=hb1.size;try simp at hz1;try have hy1:=Nl hz1;try have hx1:=Ns hy1;try have hw1:=Ns hx1));go_ret;exact⟨rfl,BL⟩
theorem Ygq{W w:World}{fv:Value}{F:PFunc}(hU:Uni W)(hF:FnV W W.heap.size fv F)(hW:Below W.heap.size W w)(hS:Yag F) :
 Calls Tryz.prog 19 #[fv] w fun e w'=>e=.returned (.bool (Yc F))∧Below w.heap.size w w':=by
 have hs:=fun(w:World) (h:Below W.heap.size W w)=>Ykb hU hF h hS
 have hWs:=hW.size;cases hx:Yf F
 · have HF:=Lh (show Yc F=false by rw[Yc,hx];rfl)
   obtain⟨A0,c0,A1,c1,A2,c2,rfl,-⟩:=id hF.open_;rw[hx]at hs;clear hx;go_enter Tryz.func19,Tryz.ntmps19;go_wp2_with(go_at_call 46;refine(hs _ BL).mono ?_;(rintro e w1 ⟨rfl,hb1⟩;obtain⟨hc1,hf1⟩:=Ya hb1;have hz1:=hb1.size;try simp at hz1;try have hy1:=Nl hz1;try have hx1:=Ns hy1;try have hw1:=Ns hx1));go_ret;exact⟨Yb HF.out.symm,BL⟩
 · have HF:=Lh (show Yc F=F.blocks.all (blkT F) by rw[Yc,hx];rfl)
   have ht:=fun(w:World) (h:Below W.heap.size W w)=>Yj8 hF h hx
   obtain⟨A0,c0,A1,c1,A2,c2,rfl,-⟩:=id hF.open_;rw[hx]at hs;clear hx;go_enter Tryz.func19,Tryz.ntmps19;go_wp2_with(first|(go_at_call 46;refine(hs _ BL).mono ?_;(rintro e w1 ⟨rfl,hb1⟩;obtain⟨hc1,hf1⟩:=Ya hb1;have hz1:=hb1.size;try simp at hz1;try have hy1:=Nl hz1;try have hx1:=Ns hy1;try have hw1:=Ns hx1))|(go_at_call 47;refine(ht _ BL).mono ?_;(rintro e w2 ⟨rfl,hb2⟩;obtain⟨hc2,hf2⟩:=Ya hb2;have hz2:=hb2.size;try simp at hz2;try have hy2:=Nl hz2;try have hx2:=Ns hy2;try have hw2:=Ns hx2)));go_ret;exact⟨Yb (by rw[HF.out]),BL⟩
def YaC(F:PFunc):Bool:=Yr F&&Yc F
theorem Ygr{W w:World}{fv:Value}{F:PFunc}(hU:Uni W)(hF:FnV W W.heap.size fv F)(hW:Below W.heap.size W w) :
 Calls Tryz.prog 12 #[fv] w fun e w'=>e=.returned (.bool (YaC F))∧Below w.heap.size w w':=by
 have hs:=fun(w:World) (h:Below W.heap.size W w)=>Yj2 hF h
 have hWs:=hW.size;cases hx:Yr F
 · have HF:=Lh (show YaC F=false by rw[YaC,hx];rfl)
   obtain⟨A0,c0,A1,c1,A2,c2,rfl,-⟩:=id hF.open_;rw[hx]at hs;clear hx;go_enter Tryz.func12,Tryz.ntmps12;go_wp2_with(go_at_call 11;refine(hs _ BL).mono ?_;(rintro e w1 ⟨rfl,hb1⟩;obtain⟨hc1,hf1⟩:=Ya hb1;have hz1:=hb1.size;try simp at hz1;try have hy1:=Nl hz1;try have hx1:=Ns hy1;try have hw1:=Ns hx1));go_ret;exact⟨Yb HF.out.symm,BL⟩
 · have HF:=Lh (show YaC F=Yc F by rw[YaC,hx];rfl)
   have ht:=fun(w:World) (h:Below W.heap.size W w)=>Ygq hU hF h (YcA hx)
   obtain⟨A0,c0,A1,c1,A2,c2,rfl,-⟩:=id hF.open_;rw[hx]at hs;clear hx;go_enter Tryz.func12,Tryz.ntmps12;go_wp2_with(first|(go_at_call 11;refine(hs _ BL).mono ?_;(rintro e w1 ⟨rfl,hb1⟩;obtain⟨hc1,hf1⟩:=Ya hb1;have hz1:=hb1.size;try simp at hz1;try have hy1:=Nl hz1;try have hx1:=Ns hy1;try have hw1:=Ns hx1))|(go_at_call 19;refine(ht _ BL).mono ?_;(rintro e w2 ⟨rfl,hb2⟩;obtain⟨hc2,hf2⟩:=Ya hb2;have hz2:=hb2.size;try simp at hz2;try have hy2:=Nl hz2;try have hx2:=Ns hy2;try have hw2:=Ns hx2)));go_ret;exact⟨Yb (by rw[HF.out]),BL⟩
theorem Ykc{α:Type}{B:Nat}{sz:Nat}{R:Nat→Nat→α→Prop}:Sl B (.slice none 0 0) ([]:List α) sz R:=⟨none,0,rfl,by simp[Len],Nr _,fun i x hx=>by simp at hx⟩
end Go.Proofs.YthhjlbflpjhahaaGreatDoor
