/- graph.Order, graph.Preds, graph.Joined of a program without phis; the laws' own Typed. -/
import Derived.Test.YtjlclkcmfokobaaGreatDoorPredsZ
import Derived.Test.YtjlclkcmfokobaaGreatDoorFewQZ
import Derived.Test.YtjlclkcmfokobaaGreatDoorRefBZ
import Derived.Test.YtjlclkcmfokobaaGreatDoorRefTZ
import Derived.Test.YtjlclkcmfokobaaGreatDoorTypedZ
namespace Go.Proofs.YtjlclkcmfokobaaGreatDoor
open Go.RowKit
set_option maxRecDepth 100000
theorem Ynu{W w:World}{fv:Value}{F:PFunc}(hU:Uni W)(hF:FnV W W.heap.size fv F)(hW:Below W.heap.size W w)(hS:YU F)(hT:Yd F=false) :
 Calls Tryz.prog 57 #[fv] w (RetInts w []):=by
 have hr:=fun(w:World) (h:Below W.heap.size W w)=>YbZ hU hF h hS
 rw[hT]at hr;have hWs:=hW.size;obtain⟨A0,c0,A1,c1,A2,c2,rfl,-⟩:=id hF.open_;clear hT;go_enter Tryz.func57,Tryz.ntmps57;go_wp2_with(go_at_call 90;refine(hr _ BL).mono ?_;(rintro e w1 ⟨rfl,hb1⟩;obtain⟨hc1,hf1⟩:=Ya hb1;have hz1:=hb1.size;try simp at hz1;try have hy1:=Nl hz1;try have hx1:=Ns hy1;try have hw1:=Ns hx1));go_ret;exact RetInts.nil_ BL
theorem Ynv{W w:World}{fv:Value}{F:PFunc}(hU:Uni W)(hF:FnV W W.heap.size fv F)(hW:Below W.heap.size W w)(hS:YU F)(hT:Yd F=true) :
 Calls Tryz.prog 57 #[fv] w (RetInts w (Yf (postO F).reverse)):=by
 have hr:=fun(w:World) (h:Below W.heap.size W w)=>YbZ hU hF h hS
 have ho:=fun(w:World) (h:Below W.heap.size W w)=>Yhk hF h hT
 rw[hT]at hr;have hWs:=hW.size;obtain⟨A0,c0,A1,c1,A2,c2,rfl,-⟩:=id hF.open_;clear hT;generalize Yf (postO F).reverse=L at *;go_enter Tryz.func57,Tryz.ntmps57;go_wp2_with(first|(go_at_call 90;refine(hr _ BL).mono ?_;(rintro e w1 ⟨rfl,hb1⟩;obtain⟨hc1,hf1⟩:=Ya hb1;have hz1:=hb1.size;try simp at hz1;try have hy1:=Nl hz1;try have hx1:=Ns hy1;try have hw1:=Ns hx1))|(go_at_call 98;refine(ho _ BL).mono ?_;(rintro e w2 ⟨A2,c2,rfl,l2,k2,r2,hb2⟩;obtain⟨hc2,hf2⟩:=Ya hb2;have hz2:=hb2.size;try simp at hz2;try have hy2:=Nl hz2;try have hx2:=Ns hy2;try have hw2:=Ns hx2)));go_ret;exact⟨_,_,rfl,l2,k2,r2,BL⟩
theorem YqM{W w:World}{fv:Value}{F:PFunc}(hU:Uni W)(hF:FnV W W.heap.size fv F)(hW:Below W.heap.size W w)(hS:YU F)(hT:Yd F=false) :
 Calls Tryz.prog 47 #[fv] w (Yej w []):=by
 have hr:=fun(w:World) (h:Below W.heap.size W w)=>YbZ hU hF h hS
 rw[hT]at hr;have hWs:=hW.size;obtain⟨A0,c0,A1,c1,A2,c2,rfl,-⟩:=id hF.open_;clear hT;go_enter Tryz.func47,Tryz.ntmps47;go_wp2_with(go_at_call 90;refine(hr _ BL).mono ?_;(rintro e w1 ⟨rfl,hb1⟩;obtain⟨hc1,hf1⟩:=Ya hb1;have hz1:=hb1.size;try simp at hz1;try have hy1:=Nl hz1;try have hx1:=Ns hy1;try have hw1:=Ns hx1));go_ret;exact⟨none,0,rfl,by simp[Len],ZS,fun i x hx=>by simp at hx,BL⟩
theorem Ynw{W w:World}{fv:Value}{F:PFunc}(hU:Uni W)(hF:FnV W W.heap.size fv F)(hW:Below W.heap.size W w)(hS:YU F)(hT:Yd F=true) :
 Calls Tryz.prog 47 #[fv] w (Yej w (YaO F)):=by
 have hr:=fun(w:World) (h:Below W.heap.size W w)=>YbZ hU hF h hS
 have ho:=fun(w:World) (h:Below W.heap.size W w)=>YfG hF h hT
 rw[hT]at hr;have hWs:=hW.size;obtain⟨A0,c0,A1,c1,A2,c2,rfl,-⟩:=id hF.open_;clear hT;generalize YaO F=L at *;go_enter Tryz.func47,Tryz.ntmps47;go_wp2_with(first|(go_at_call 90;refine(hr _ BL).mono ?_;(rintro e w1 ⟨rfl,hb1⟩;obtain⟨hc1,hf1⟩:=Ya hb1;have hz1:=hb1.size;try simp at hz1;try have hy1:=Nl hz1;try have hx1:=Ns hy1;try have hw1:=Ns hx1))|(go_at_call 91;refine(ho _ BL).mono ?_;(rintro e w2 ⟨A2,c2,rfl,l2,k2,r2,hb2⟩;obtain⟨hc2,hf2⟩:=Ya hb2;have hz2:=hb2.size;try simp at hz2;try have hy2:=Nl hz2;try have hx2:=Ns hy2;try have hw2:=Ns hx2)));go_ret;exact⟨_,_,rfl,l2,k2,r2,BL⟩
theorem Ynx{W w:World}{fv:Value}{F:PFunc}(hF:FnV W W.heap.size fv F)(hW:Below W.heap.size W w)(hT:Yd F=true)(hp:∀b∈F.blocks,b.phis=[]) :
 Calls Tryz.prog 148 #[fv] w fun e w'=>e=.returned (.bool true)∧Below w.heap.size w w':=by
 have ho:=fun(w:World) (h:Below W.heap.size W w)=>YfG hF h hT
 obtain⟨n1,n2⟩:=Y1 (Yx hT);clear hT;have hWs:=hW.size;obtain⟨A0,c0,A1,c1,A2,c2,rfl,l0,l1,l2,-,-,-,r0,r1,r2⟩:=id hF.open_;unfold Len at *;have hb0:=(Br w.heap.size w).alloc (Nr _) (.cells #[.slice A0 F.vars.length c0,.slice A1 F.params.length c1,.slice A2 F.blocks.length c2] 26);replace hp:=Lh hp;generalize YaO F=L at *;go_enter Tryz.func148,Tryz.ntmps148;go_wp2_with(go_at_call 91;refine(ho _ BL).mono ?_;(rintro e w5 ⟨A5,c5,rfl,l5,k5,r5,hb5⟩;obtain⟨hc5,hf5⟩:=Ya hb5;have hz5:=hb5.size;try simp at hz5;try have hy5:=Nl hz5;try have hx5:=Ns hy5;try have hw5:=Ns hx5));have hbx:Below (w.heap.size+1) (w.alloc (.cells #[.slice A0 F.vars.length c0,.slice A1 F.params.length c1,.slice A2 F.blocks.length c2] 26)) w5:=by simpa using hb5
 go_loopw[14] (fun i wr=>∃n:Nat,i=.int .i64 n∧n≤F.blocks.length∧Below (w.heap.size+1) (w.alloc (.cells #[.slice A0 F.vars.length c0,.slice A1 F.params.length c1,.slice A2 F.blocks.length c2] 26)) wr) (fun i _=>F.blocks.length-(intOf i).toNat)
 case atStart=>exact⟨0,rfl,Nz _,hbx⟩
 case round=>as_aux_lemma=>
  obtain⟨n,rfl,hn,hb⟩:=hrel;have hB:=hb0.trans (hb.mono (Nat.le_succ _));have hWr:Below W.heap.size W wr:=hW.trans (hB.mono hWs)
  by_cases hlt:n<F.blocks.length
  · obtain⟨bb,off,A3,c3,A4,c4,rfl,hbb,hnz,hy0,hy1,hy2,hy3,hy4,hy5,hy6,l3,l4,k3,k4,r3,r4⟩:=r2.blk hWr hlt
    have hnil:=hp.out _ (Y4 hlt);rw[hnil]at hy1;simp only[List.length_nil]at hy1;clear hnil;go_wp2;refine wp_loop_once ?_;go_wp2;go_roundw
    case rel=>exact⟨n+1,ZN,ZO,hb.alloc (Yn hb).1 _⟩
    case measure=>simp[intOf];omega
  · go_wp2
    go_ret;exact⟨rfl,hB⟩
theorem YqN{W w:World}{fv:Value}{F:PFunc}(hU:Uni W)(hF:FnV W W.heap.size fv F)(hW:Below W.heap.size W w)(hS:YU F)(hT:Yd F=true)(hp:∀b∈F.blocks,b.phis=[]) :
 Calls Tryz.prog 111 #[fv] w fun e w'=>e=.returned (.int .i64 0)∧Below w.heap.size w w':=by
 have hr:=fun(w:World) (h:Below W.heap.size W w)=>YbZ hU hF h hS
 have hj:=fun(w:World) (h:Below W.heap.size W w)=>Ynx hF h hT hp
 rw[hT]at hr;have hWs:=hW.size;obtain⟨A0,c0,A1,c1,A2,c2,rfl,-⟩:=id hF.open_;clear hT hp;go_enter Tryz.func111,Tryz.ntmps111;go_wp2_with(first|(go_at_call 90;refine(hr _ BL).mono ?_;(rintro e w1 ⟨rfl,hb1⟩;obtain⟨hc1,hf1⟩:=Ya hb1;have hz1:=hb1.size;try simp at hz1;try have hy1:=Nl hz1;try have hx1:=Ns hy1;try have hw1:=Ns hx1))|(go_at_call 148;refine(hj _ BL).mono ?_;(rintro e w2 ⟨rfl,hb2⟩;obtain⟨hc2,hf2⟩:=Ya hb2;have hz2:=hb2.size;try simp at hz2;try have hy2:=Nl hz2;try have hx2:=Ns hy2;try have hw2:=Ns hx2)));go_ret;exact⟨rfl,BL⟩
theorem Yny{W w:World}{fv:Value}{F:PFunc}(hU:Uni W)(hF:FnV W W.heap.size fv F)(hW:Below W.heap.size W w)(hS:YU F) :
 Calls Tryz.prog 43 #[fv] w fun e w'=>e=.returned (.bool (Yj F))∧Below w.heap.size w w':=by
 have hr:=fun(w:World) (h:Below W.heap.size W w)=>Yno hU hF h hS
 have hWs:=hW.size;obtain⟨A0,c0,A1,c1,A2,c2,rfl,-⟩:=id hF.open_;go_enter Tryz.func43,Tryz.ntmps43;go_wp2_with(go_at_call 85;refine(hr _ BL).mono ?_;(rintro e w1 ⟨rfl,hb1⟩;obtain⟨hc1,hf1⟩:=Ya hb1;have hz1:=hb1.size;try simp at hz1;try have hy1:=Nl hz1;try have hx1:=Ns hy1;try have hw1:=Ns hx1));go_ret;exact⟨rfl,BL⟩
theorem Yiz{W w:World}{fv:Value}{F:PFunc}(hU:Uni W)(hF:FnV W W.heap.size fv F)(hW:Below W.heap.size W w)(hS:YU F) :
 Calls Tryz.prog 16 #[fv] w fun e w'=>e=.returned (.bool (Yd F))∧Below w.heap.size w w':=by
 have hs:=fun(w:World) (h:Below W.heap.size W w)=>Yny hU hF h hS
 have hWs:=hW.size;cases hx:Yj F
 · have HF:=Lh (show Yd F=false by rw[Yd,hx];rfl)
   obtain⟨A0,c0,A1,c1,A2,c2,rfl,-⟩:=id hF.open_;rw[hx]at hs;clear hx;go_enter Tryz.func16,Tryz.ntmps16;go_wp2_with(go_at_call 43;refine(hs _ BL).mono ?_;(rintro e w1 ⟨rfl,hb1⟩;obtain⟨hc1,hf1⟩:=Ya hb1;have hz1:=hb1.size;try simp at hz1;try have hy1:=Nl hz1;try have hx1:=Ns hy1;try have hw1:=Ns hx1));go_ret;exact⟨Yb HF.out.symm,BL⟩
 · have HF:=Lh (show Yd F=F.blocks.all (YK F) by rw[Yd,hx];rfl)
   have ht:=fun(w:World) (h:Below W.heap.size W w)=>Ynt hF h hx
   obtain⟨A0,c0,A1,c1,A2,c2,rfl,-⟩:=id hF.open_;rw[hx]at hs;clear hx;go_enter Tryz.func16,Tryz.ntmps16;go_wp2_with(first|(go_at_call 43;refine(hs _ BL).mono ?_;(rintro e w1 ⟨rfl,hb1⟩;obtain⟨hc1,hf1⟩:=Ya hb1;have hz1:=hb1.size;try simp at hz1;try have hy1:=Nl hz1;try have hx1:=Ns hy1;try have hw1:=Ns hx1))|(go_at_call 44;refine(ht _ BL).mono ?_;(rintro e w2 ⟨rfl,hb2⟩;obtain⟨hc2,hf2⟩:=Ya hb2;have hz2:=hb2.size;try simp at hz2;try have hy2:=Nl hz2;try have hx2:=Ns hy2;try have hw2:=Ns hx2)));go_ret;exact⟨Yb (by rw[HF.out]),BL⟩
def Ya2(F:PFunc):Bool:=Yv F&&Yd F
theorem Ynz{W w:World}{fv:Value}{F:PFunc}(hU:Uni W)(hF:FnV W W.heap.size fv F)(hW:Below W.heap.size W w) :
 Calls Tryz.prog 21 #[fv] w fun e w'=>e=.returned (.bool (Ya2 F))∧Below w.heap.size w w':=by
 have hs:=fun(w:World) (h:Below W.heap.size W w)=>Yik hF h
 have hWs:=hW.size;cases hx:Yv F
 · have HF:=Lh (show Ya2 F=false by rw[Ya2,hx];rfl)
   obtain⟨A0,c0,A1,c1,A2,c2,rfl,-⟩:=id hF.open_;rw[hx]at hs;clear hx;go_enter Tryz.func21,Tryz.ntmps21;go_wp2_with(go_at_call 11;refine(hs _ BL).mono ?_;(rintro e w1 ⟨rfl,hb1⟩;obtain⟨hc1,hf1⟩:=Ya hb1;have hz1:=hb1.size;try simp at hz1;try have hy1:=Nl hz1;try have hx1:=Ns hy1;try have hw1:=Ns hx1));go_ret;exact⟨Yb HF.out.symm,BL⟩
 · have HF:=Lh (show Ya2 F=Yd F by rw[Ya2,hx];rfl)
   have ht:=fun(w:World) (h:Below W.heap.size W w)=>Yiz hU hF h (Yde hx)
   obtain⟨A0,c0,A1,c1,A2,c2,rfl,-⟩:=id hF.open_;rw[hx]at hs;clear hx;go_enter Tryz.func21,Tryz.ntmps21;go_wp2_with(first|(go_at_call 11;refine(hs _ BL).mono ?_;(rintro e w1 ⟨rfl,hb1⟩;obtain⟨hc1,hf1⟩:=Ya hb1;have hz1:=hb1.size;try simp at hz1;try have hy1:=Nl hz1;try have hx1:=Ns hy1;try have hw1:=Ns hx1))|(go_at_call 16;refine(ht _ BL).mono ?_;(rintro e w2 ⟨rfl,hb2⟩;obtain⟨hc2,hf2⟩:=Ya hb2;have hz2:=hb2.size;try simp at hz2;try have hy2:=Nl hz2;try have hx2:=Ns hy2;try have hw2:=Ns hx2)));go_ret;exact⟨Yb (by rw[HF.out]),BL⟩
def fn0:PFunc:=⟨[⟨⟨#[110]⟩,0⟩,⟨⟨#[118]⟩,1⟩],[0,1],[⟨⟨#[97]⟩,[],[],⟨1,1,2,1⟩⟩,⟨⟨#[98]⟩,[],[],⟨0,0,2,0⟩⟩,⟨⟨#[99]⟩,[],[],⟨2,0,0,0⟩⟩]⟩
theorem YqO:Yd fn0=true:=by decide +kernel
theorem YqP:Yf (postO fn0).reverse=[0,1,2]:=by decide +kernel
theorem YqQ:YU fn0:=⟨ZD,ZD,fun i hi=>by
 have:i<3:=hi
 match i,this with
 |0,_=>decide
 |1,_=>decide
 |2,_=>decide⟩
def YnA:Array Value:=#[.string ⟨#[97]⟩,.slice none 0 0,.slice none 0 0,.int .i64 1,.int .i64 1,.int .i64 2,.int .i64 1,.string ⟨#[98]⟩,.slice none 0 0,.slice none 0 0,.int .i64 0,.int .i64 0,.int .i64 2,.int .i64 0,.string ⟨#[99]⟩,.slice none 0 0,.slice none 0 0,.int .i64 2,.int .i64 0,.int .i64 0,.int .i64 0]
def YnB:Array Value:=#[.string ⟨#[110]⟩,.int .i64 0,.string ⟨#[118]⟩,.int .i64 1]
theorem Yb8{α:Type}{B:Nat}{sz:Nat}{R:Nat→Nat→α→Prop}:Sl B (.slice none 0 0) ([]:List α) sz R:=⟨none,0,rfl,by simp[Len],Nr _,fun i x hx=>by simp at hx⟩
theorem YqR{w:World}{b0 b1 b2:Nat}(h0:b0<w.heap.size)(h1:b1<w.heap.size)(h2:b2<w.heap.size)(c0:∀j,w.cell? ⟨b0,j,none⟩=YnB[j]?)(c1:∀j,w.cell? ⟨b1,j,none⟩=(#[.int .i64 0,.int .i64 1]:Array Value)[j]?)(c2:∀j,w.cell? ⟨b2,j,none⟩=YnA[j]?) :
 FnV w w.heap.size (.agg #[.slice (some ⟨b0,0,none⟩) 2 2,.slice (some ⟨b1,0,none⟩) 2 2,.slice (some ⟨b2,0,none⟩) 3 3]) fn0:=by
 refine⟨_,_,_,rfl,⟨_,_,rfl,by simp[Len,fn0],ZD,fun i x hx=>?_⟩,⟨_,_,rfl,by simp[Len,fn0],ZD,fun i x hx=>?_⟩,⟨_,_,rfl,by simp[Len,fn0],ZD,fun i x hx=>?_⟩⟩
 · refine⟨b0,0,rfl,h0,?_⟩
   match i,hx with
   |0,hx=>cases hx;exact⟨ZD,c0 0,c0 1⟩
   |1,hx=>cases hx;exact⟨ZD,c0 2,c0 3⟩
 · refine⟨b1,0,rfl,h1,?_⟩
   match i,hx with
   |0,hx=>cases hx;exact c1 0
   |1,hx=>cases hx;exact c1 1
 · refine⟨b2,0,rfl,h2,?_⟩
   match i,hx with
   |0,hx=>cases hx;exact⟨ZD,c2 0,⟨_,c2 1,Yb8⟩,⟨_,c2 2,Yb8⟩,c2 3,c2 4,c2 5,c2 6⟩
   |1,hx=>cases hx;exact⟨ZD,c2 7,⟨_,c2 8,Yb8⟩,⟨_,c2 9,Yb8⟩,c2 10,c2 11,c2 12,c2 13⟩
   |2,hx=>cases hx;exact⟨ZD,c2 14,⟨_,c2 15,Yb8⟩,⟨_,c2 16,Yb8⟩,c2 17,c2 18,c2 19,c2 20⟩
theorem YqS:∀b∈fn0.blocks,b.phis=[]:=by
 intro b hb;simp only[fn0,List.mem_cons,List.mem_nil_iff,or_false]at hb;rcases hb with rfl|rfl|rfl<;>rfl
end Go.Proofs.YtjlclkcmfokobaaGreatDoor
