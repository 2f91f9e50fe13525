/- graph.Order, graph.Preds, graph.Joined of a program without phis; the laws' own Typed. -/
import Derived.Test.YthhjlbflpjhahaaGreatDoorPredsZ
import Derived.Test.YthhjlbflpjhahaaGreatDoorFewQZ
import Derived.Test.YthhjlbflpjhahaaGreatDoorRefBZ
import Derived.Test.YthhjlbflpjhahaaGreatDoorRefTZ
import Derived.Test.YthhjlbflpjhahaaGreatDoorTypedZ
namespace Go.Proofs.YthhjlbflpjhahaaGreatDoor
open Go.RowKit
set_option maxRecDepth 100000
theorem predsYes_calls{W w:World}{fv:Value}{F:PFunc}(hU:Uni W)(hF:FnV W W.heap.size fv F)(hW:Below W.heap.size W w)(hS:Small F)(hT:typedP F=true) :
 Calls Tryz.prog 36 #[fv] w (RetRows w (predsOf F)):=by
 have hr:=fun(w:World) (h:Below W.heap.size W w)=>right_calls hU hF h hS
 have ho:=fun(w:World) (h:Below W.heap.size W w)=>preds_calls hF h hT
 rw[hT]at hr;have hWs:=hW.size;obtain⟨A0,c0,A1,c1,A2,c2,rfl,-⟩:=id hF.open_;clear hT;generalize predsOf F=L at *;go_enter Tryz.func36,Tryz.ntmps36;go_wp2_with(first|(go_at_call 63;refine(hr _ BL).mono ?_;(rintro e w1 ⟨rfl,hb1⟩;obtain⟨hc1,hf1⟩:=bcell hb1;have hz1:=hb1.size;try simp at hz1;try have hy1:=Nl hz1;try have hx1:=Ns hy1;try have hw1:=Ns hx1))|(go_at_call 64;refine(ho _ BL).mono ?_;(rintro e w2 ⟨A2,c2,rfl,l2,k2,r2,hb2⟩;obtain⟨hc2,hf2⟩:=bcell hb2;have hz2:=hb2.size;try simp at hz2;try have hy2:=Nl hz2;try have hx2:=Ns hy2;try have hw2:=Ns hx2)));go_ret;exact⟨_,_,rfl,l2,k2,r2,BL⟩
theorem law4Shaped_calls{W w:World}{fv:Value}{F:PFunc}(hU:Uni W)(hF:FnV W W.heap.size fv F)(hW:Below W.heap.size W w)(hS:Small F) :
 Calls Tryz.prog 46 #[fv] w fun e w'=>e=.returned (.bool (shapedP F))∧Below w.heap.size w w':=by
 have hr:=fun(w:World) (h:Below W.heap.size W w)=>refShaped_calls hU hF h hS
 have hWs:=hW.size;obtain⟨A0,c0,A1,c1,A2,c2,rfl,-⟩:=id hF.open_;go_enter Tryz.func46,Tryz.ntmps46;go_wp2_with(go_at_call 74;refine(hr _ BL).mono ?_;(rintro e w1 ⟨rfl,hb1⟩;obtain⟨hc1,hf1⟩:=bcell hb1;have hz1:=hb1.size;try simp at hz1;try have hy1:=Nl hz1;try have hx1:=Ns hy1;try have hw1:=Ns hx1));go_ret;exact⟨rfl,BL⟩
theorem law8Typed_calls{W w:World}{fv:Value}{F:PFunc}(hU:Uni W)(hF:FnV W W.heap.size fv F)(hW:Below W.heap.size W w)(hS:Small F) :
 Calls Tryz.prog 19 #[fv] w fun e w'=>e=.returned (.bool (typedP F))∧Below w.heap.size w w':=by
 have hs:=fun(w:World) (h:Below W.heap.size W w)=>law4Shaped_calls hU hF h hS
 have hWs:=hW.size;cases hx:shapedP F
 · have HF:=Lh (show typedP F=false by rw[typedP,hx];rfl)
   obtain⟨A0,c0,A1,c1,A2,c2,rfl,-⟩:=id hF.open_;rw[hx]at hs;clear hx;go_enter Tryz.func19,Tryz.ntmps19;go_wp2_with(go_at_call 46;refine(hs _ BL).mono ?_;(rintro e w1 ⟨rfl,hb1⟩;obtain⟨hc1,hf1⟩:=bcell hb1;have hz1:=hb1.size;try simp at hz1;try have hy1:=Nl hz1;try have hx1:=Ns hy1;try have hw1:=Ns hx1));go_ret;exact⟨ret_bool HF.out.symm,BL⟩
 · have HF:=Lh (show typedP F=F.blocks.all (blkT F) by rw[typedP,hx];rfl)
   have ht:=fun(w:World) (h:Below W.heap.size W w)=>refTyped_calls hF h hx
   obtain⟨A0,c0,A1,c1,A2,c2,rfl,-⟩:=id hF.open_;rw[hx]at hs;clear hx;go_enter Tryz.func19,Tryz.ntmps19;go_wp2_with(first|(go_at_call 46;refine(hs _ BL).mono ?_;(rintro e w1 ⟨rfl,hb1⟩;obtain⟨hc1,hf1⟩:=bcell hb1;have hz1:=hb1.size;try simp at hz1;try have hy1:=Nl hz1;try have hx1:=Ns hy1;try have hw1:=Ns hx1))|(go_at_call 47;refine(ht _ BL).mono ?_;(rintro e w2 ⟨rfl,hb2⟩;obtain⟨hc2,hf2⟩:=bcell hb2;have hz2:=hb2.size;try simp at hz2;try have hy2:=Nl hz2;try have hx2:=Ns hy2;try have hw2:=Ns hx2)));go_ret;exact⟨ret_bool (by rw[HF.out]),BL⟩
def lawT(F:PFunc):Bool:=fewB F&&typedP F
theorem lawTyped_calls{W w:World}{fv:Value}{F:PFunc}(hU:Uni W)(hF:FnV W W.heap.size fv F)(hW:Below W.heap.size W w) :
 Calls Tryz.prog 12 #[fv] w fun e w'=>e=.returned (.bool (lawT F))∧Below w.heap.size w w':=by
 have hs:=fun(w:World) (h:Below W.heap.size W w)=>few_calls hF h
 have hWs:=hW.size;cases hx:fewB F
 · have HF:=Lh (show lawT F=false by rw[lawT,hx];rfl)
   obtain⟨A0,c0,A1,c1,A2,c2,rfl,-⟩:=id hF.open_;rw[hx]at hs;clear hx;go_enter Tryz.func12,Tryz.ntmps12;go_wp2_with(go_at_call 11;refine(hs _ BL).mono ?_;(rintro e w1 ⟨rfl,hb1⟩;obtain⟨hc1,hf1⟩:=bcell hb1;have hz1:=hb1.size;try simp at hz1;try have hy1:=Nl hz1;try have hx1:=Ns hy1;try have hw1:=Ns hx1));go_ret;exact⟨ret_bool HF.out.symm,BL⟩
 · have HF:=Lh (show lawT F=typedP F by rw[lawT,hx];rfl)
   have ht:=fun(w:World) (h:Below W.heap.size W w)=>law8Typed_calls hU hF h (few_small hx)
   obtain⟨A0,c0,A1,c1,A2,c2,rfl,-⟩:=id hF.open_;rw[hx]at hs;clear hx;go_enter Tryz.func12,Tryz.ntmps12;go_wp2_with(first|(go_at_call 11;refine(hs _ BL).mono ?_;(rintro e w1 ⟨rfl,hb1⟩;obtain⟨hc1,hf1⟩:=bcell hb1;have hz1:=hb1.size;try simp at hz1;try have hy1:=Nl hz1;try have hx1:=Ns hy1;try have hw1:=Ns hx1))|(go_at_call 19;refine(ht _ BL).mono ?_;(rintro e w2 ⟨rfl,hb2⟩;obtain⟨hc2,hf2⟩:=bcell hb2;have hz2:=hb2.size;try simp at hz2;try have hy2:=Nl hz2;try have hx2:=Ns hy2;try have hw2:=Ns hx2)));go_ret;exact⟨ret_bool (by rw[HF.out]),BL⟩
def fn0:PFunc:=⟨[⟨⟨#[110]⟩,0⟩,⟨⟨#[118]⟩,1⟩],[0,1],[⟨⟨#[97]⟩,[],[],⟨1,1,2,1⟩⟩,⟨⟨#[98]⟩,[],[],⟨0,0,2,0⟩⟩,⟨⟨#[99]⟩,[],[],⟨2,0,0,0⟩⟩]⟩
def blks0:Array Value:=#[.string ⟨#[97]⟩,.slice none 0 0,.slice none 0 0,.int .i64 1,.int .i64 1,.int .i64 2,.int .i64 1,.string ⟨#[98]⟩,.slice none 0 0,.slice none 0 0,.int .i64 0,.int .i64 0,.int .i64 2,.int .i64 0,.string ⟨#[99]⟩,.slice none 0 0,.slice none 0 0,.int .i64 2,.int .i64 0,.int .i64 0,.int .i64 0]
def vars0:Array Value:=#[.string ⟨#[110]⟩,.int .i64 0,.string ⟨#[118]⟩,.int .i64 1]
theorem sl_nil{α:Type}{B:Nat}{sz:Nat}{R:Nat→Nat→α→Prop}:Sl B (.slice none 0 0) ([]:List α) sz R:=⟨none,0,rfl,by simp[Len],Nr _,fun i x hx=>by simp at hx⟩
end Go.Proofs.YthhjlbflpjhahaaGreatDoor
