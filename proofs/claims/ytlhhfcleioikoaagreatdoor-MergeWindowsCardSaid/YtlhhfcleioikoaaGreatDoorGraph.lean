/- graph.Order, graph.Preds, graph.Joined of a program without phis; the laws' own Typed. The laws' example: it is typed, its order is 0, 1, 2, and it is joined. -/
import Derived.Test.YtlhhfcleioikoaaGreatDoorPreds
import Derived.Test.YtlhhfcleioikoaaGreatDoorFew
import Derived.Test.YtlhhfcleioikoaaGreatDoorRefB
import Derived.Test.YtlhhfcleioikoaaGreatDoorRefT
import Derived.Test.YtlhhfcleioikoaaGreatDoorTyped
namespace Go.Proofs.YtlhhfcleioikoaaGreatDoor
open Go.RowKit
set_option maxRecDepth 100000
theorem orderNo_calls{W w:World}{fv:Value}{F:PFunc}(hU:Uni W)(hF:FnV W W.heap.size fv F)(hW:Below W.heap.size W w)(hS:Small F)(hT:typedP F=false) :
 Calls Tryz.prog 55 #[fv] w (RetInts w []):=by
 have hr:=fun(w:World) (h:Below W.heap.size W w)=>right_calls hU hF h hS
 rw[hT]at hr;have hWs:=hW.size;obtain⟨A0,c0,A1,c1,A2,c2,rfl,-⟩:=id hF.open_;clear hT;go_enter Tryz.func55,Tryz.ntmps55;go_wp2_with(go_at_call 84;refine(hr _ BL).mono ?_;(rintro e w1 ⟨rfl,hb1⟩;obtain⟨hc1,hf1⟩:=bcell hb1;have hz1:=hb1.size;try simp at hz1;try have hy1:=Nat.lt_of_succ_le hz1;try have hx1:=Nat.lt_of_succ_lt hy1;try have hw1:=Nat.lt_of_succ_lt hx1));go_ret;exact RetInts.nil_ BL
theorem orderYes_calls{W w:World}{fv:Value}{F:PFunc}(hU:Uni W)(hF:FnV W W.heap.size fv F)(hW:Below W.heap.size W w)(hS:Small F)(hT:typedP F=true) :
 Calls Tryz.prog 55 #[fv] w (RetInts w (ints (postO F).reverse)):=by
 have hr:=fun(w:World) (h:Below W.heap.size W w)=>right_calls hU hF h hS
 have ho:=fun(w:World) (h:Below W.heap.size W w)=>order_calls hF h hT
 rw[hT]at hr;have hWs:=hW.size;obtain⟨A0,c0,A1,c1,A2,c2,rfl,-⟩:=id hF.open_;clear hT;generalize ints (postO F).reverse=L at *;go_enter Tryz.func55,Tryz.ntmps55;go_wp2_with(first|(go_at_call 84;refine(hr _ BL).mono ?_;(rintro e w1 ⟨rfl,hb1⟩;obtain⟨hc1,hf1⟩:=bcell hb1;have hz1:=hb1.size;try simp at hz1;try have hy1:=Nat.lt_of_succ_le hz1;try have hx1:=Nat.lt_of_succ_lt hy1;try have hw1:=Nat.lt_of_succ_lt hx1))|(go_at_call 92;refine(ho _ BL).mono ?_;(rintro e w2 ⟨A2,c2,rfl,l2,k2,r2,hb2⟩;obtain⟨hc2,hf2⟩:=bcell hb2;have hz2:=hb2.size;try simp at hz2;try have hy2:=Nat.lt_of_succ_le hz2;try have hx2:=Nat.lt_of_succ_lt hy2;try have hw2:=Nat.lt_of_succ_lt hx2)));go_ret;exact⟨_,_,rfl,l2,k2,r2,BL⟩
theorem predsNo_calls{W w:World}{fv:Value}{F:PFunc}(hU:Uni W)(hF:FnV W W.heap.size fv F)(hW:Below W.heap.size W w)(hS:Small F)(hT:typedP F=false) :
 Calls Tryz.prog 45 #[fv] w (RetRows w []):=by
 have hr:=fun(w:World) (h:Below W.heap.size W w)=>right_calls hU hF h hS
 rw[hT]at hr;have hWs:=hW.size;obtain⟨A0,c0,A1,c1,A2,c2,rfl,-⟩:=id hF.open_;clear hT;go_enter Tryz.func45,Tryz.ntmps45;go_wp2_with(go_at_call 84;refine(hr _ BL).mono ?_;(rintro e w1 ⟨rfl,hb1⟩;obtain⟨hc1,hf1⟩:=bcell hb1;have hz1:=hb1.size;try simp at hz1;try have hy1:=Nat.lt_of_succ_le hz1;try have hx1:=Nat.lt_of_succ_lt hy1;try have hw1:=Nat.lt_of_succ_lt hx1));go_ret;exact⟨none,0,rfl,by simp[Len],ZS,fun i x hx=>by simp at hx,BL⟩
theorem predsYes_calls{W w:World}{fv:Value}{F:PFunc}(hU:Uni W)(hF:FnV W W.heap.size fv F)(hW:Below W.heap.size W w)(hS:Small F)(hT:typedP F=true) :
 Calls Tryz.prog 45 #[fv] w (RetRows w (predsOf F)):=by
 have hr:=fun(w:World) (h:Below W.heap.size W w)=>right_calls hU hF h hS
 have ho:=fun(w:World) (h:Below W.heap.size W w)=>preds_calls hF h hT
 rw[hT]at hr;have hWs:=hW.size;obtain⟨A0,c0,A1,c1,A2,c2,rfl,-⟩:=id hF.open_;clear hT;generalize predsOf F=L at *;go_enter Tryz.func45,Tryz.ntmps45;go_wp2_with(first|(go_at_call 84;refine(hr _ BL).mono ?_;(rintro e w1 ⟨rfl,hb1⟩;obtain⟨hc1,hf1⟩:=bcell hb1;have hz1:=hb1.size;try simp at hz1;try have hy1:=Nat.lt_of_succ_le hz1;try have hx1:=Nat.lt_of_succ_lt hy1;try have hw1:=Nat.lt_of_succ_lt hx1))|(go_at_call 85;refine(ho _ BL).mono ?_;(rintro e w2 ⟨A2,c2,rfl,l2,k2,r2,hb2⟩;obtain⟨hc2,hf2⟩:=bcell hb2;have hz2:=hb2.size;try simp at hz2;try have hy2:=Nat.lt_of_succ_le hz2;try have hx2:=Nat.lt_of_succ_lt hy2;try have hw2:=Nat.lt_of_succ_lt hx2)));go_ret;exact⟨_,_,rfl,l2,k2,r2,BL⟩
theorem joinedNone_calls{W w:World}{fv:Value}{F:PFunc}(hF:FnV W W.heap.size fv F)(hW:Below W.heap.size W w)(hT:typedP F=true)(hp:∀b∈F.blocks,b.phis=[]) :
 Calls Tryz.prog 126 #[fv] w fun e w'=>e=.returned (.bool true)∧Below w.heap.size w w':=by
 have ho:=fun(w:World) (h:Below W.heap.size W w)=>preds_calls hF h hT
 obtain⟨n1,n2⟩:=shaped_count (typed_shaped hT);clear hT;have hWs:=hW.size;obtain⟨A0,c0,A1,c1,A2,c2,rfl,l0,l1,l2,-,-,-,r0,r1,r2⟩:=id hF.open_;unfold Len at *;have hb0:=(Below.refl w.heap.size w).alloc (Nat.le_refl _) (.cells #[.slice A0 F.vars.length c0,.slice A1 F.params.length c1,.slice A2 F.blocks.length c2] 26);replace hp:=Lib.hid hp;generalize predsOf F=L at *;go_enter Tryz.func126,Tryz.ntmps126;go_wp2_with(go_at_call 85;refine(ho _ BL).mono ?_;(rintro e w5 ⟨A5,c5,rfl,l5,k5,r5,hb5⟩;obtain⟨hc5,hf5⟩:=bcell hb5;have hz5:=hb5.size;try simp at hz5;try have hy5:=Nat.lt_of_succ_le hz5;try have hx5:=Nat.lt_of_succ_lt hy5;try have hw5:=Nat.lt_of_succ_lt hx5));have hbx:Below (w.heap.size+1) (w.alloc (.cells #[.slice A0 F.vars.length c0,.slice A1 F.params.length c1,.slice A2 F.blocks.length c2] 26)) w5:=by simpa using hb5
 go_loopw[14] (fun i wr=>∃n:Nat,i=.int .i64 n∧n≤F.blocks.length∧Below (w.heap.size+1) (w.alloc (.cells #[.slice A0 F.vars.length c0,.slice A1 F.params.length c1,.slice A2 F.blocks.length c2] 26)) wr) (fun i _=>F.blocks.length-(intOf i).toNat)
 case atStart=>exact⟨0,rfl,Nat.zero_le _,hbx⟩
 case round=>as_aux_lemma=>
  obtain⟨n,rfl,hn,hb⟩:=hrel;have hB:=hb0.trans (hb.mono (Nat.le_succ _));have hWr:Below W.heap.size W wr:=hW.trans (hB.mono hWs)
  by_cases hlt:n<F.blocks.length
  · obtain⟨bb,off,A3,c3,A4,c4,rfl,hbb,hnz,hy0,hy1,hy2,hy3,hy4,hy5,hy6,l3,l4,k3,k4,r3,r4⟩:=r2.blk hWr hlt
    have hnil:=hp.out _ (mem_of_blk hlt);rw[hnil]at hy1;simp only[List.length_nil]at hy1;clear hnil;go_wp2;refine wp_loop_once ?_;go_wp2;go_roundw
    case rel=>exact⟨n+1,ZN,ZO,hb.alloc (box3 hb).1 _⟩
    case measure=>simp[intOf];omega
  · go_wp2
    go_ret;exact⟨rfl,hB⟩
theorem joinedNoPhis_calls{W w:World}{fv:Value}{F:PFunc}(hU:Uni W)(hF:FnV W W.heap.size fv F)(hW:Below W.heap.size W w)(hS:Small F)(hT:typedP F=true)(hp:∀b∈F.blocks,b.phis=[]) :
 Calls Tryz.prog 101 #[fv] w fun e w'=>e=.returned (.int .i64 0)∧Below w.heap.size w w':=by
 have hr:=fun(w:World) (h:Below W.heap.size W w)=>right_calls hU hF h hS
 have hj:=fun(w:World) (h:Below W.heap.size W w)=>joinedNone_calls hF h hT hp
 rw[hT]at hr;have hWs:=hW.size;obtain⟨A0,c0,A1,c1,A2,c2,rfl,-⟩:=id hF.open_;clear hT hp;go_enter Tryz.func101,Tryz.ntmps101;go_wp2_with(first|(go_at_call 84;refine(hr _ BL).mono ?_;(rintro e w1 ⟨rfl,hb1⟩;obtain⟨hc1,hf1⟩:=bcell hb1;have hz1:=hb1.size;try simp at hz1;try have hy1:=Nat.lt_of_succ_le hz1;try have hx1:=Nat.lt_of_succ_lt hy1;try have hw1:=Nat.lt_of_succ_lt hx1))|(go_at_call 126;refine(hj _ BL).mono ?_;(rintro e w2 ⟨rfl,hb2⟩;obtain⟨hc2,hf2⟩:=bcell hb2;have hz2:=hb2.size;try simp at hz2;try have hy2:=Nat.lt_of_succ_le hz2;try have hx2:=Nat.lt_of_succ_lt hy2;try have hw2:=Nat.lt_of_succ_lt hx2)));go_ret;exact⟨rfl,BL⟩
theorem law4Shaped_calls{W w:World}{fv:Value}{F:PFunc}(hU:Uni W)(hF:FnV W W.heap.size fv F)(hW:Below W.heap.size W w)(hS:Small F) :
 Calls Tryz.prog 42 #[fv] w fun e w'=>e=.returned (.bool (shapedP F))∧Below w.heap.size w w':=by
 have hr:=fun(w:World) (h:Below W.heap.size W w)=>refShaped_calls hU hF h hS
 have hWs:=hW.size;obtain⟨A0,c0,A1,c1,A2,c2,rfl,-⟩:=id hF.open_;go_enter Tryz.func42,Tryz.ntmps42;go_wp2_with(go_at_call 80;refine(hr _ BL).mono ?_;(rintro e w1 ⟨rfl,hb1⟩;obtain⟨hc1,hf1⟩:=bcell hb1;have hz1:=hb1.size;try simp at hz1;try have hy1:=Nat.lt_of_succ_le hz1;try have hx1:=Nat.lt_of_succ_lt hy1;try have hw1:=Nat.lt_of_succ_lt hx1));go_ret;exact⟨rfl,BL⟩
theorem law8Typed_calls{W w:World}{fv:Value}{F:PFunc}(hU:Uni W)(hF:FnV W W.heap.size fv F)(hW:Below W.heap.size W w)(hS:Small F) :
 Calls Tryz.prog 18 #[fv] w fun e w'=>e=.returned (.bool (typedP F))∧Below w.heap.size w w':=by
 have hs:=fun(w:World) (h:Below W.heap.size W w)=>law4Shaped_calls hU hF h hS
 have hWs:=hW.size;cases hx:shapedP F
 · have HF:=Lib.hid (show typedP F=false by rw[typedP,hx];rfl)
   obtain⟨A0,c0,A1,c1,A2,c2,rfl,-⟩:=id hF.open_;rw[hx]at hs;clear hx;go_enter Tryz.func18,Tryz.ntmps18;go_wp2_with(go_at_call 42;refine(hs _ BL).mono ?_;(rintro e w1 ⟨rfl,hb1⟩;obtain⟨hc1,hf1⟩:=bcell hb1;have hz1:=hb1.size;try simp at hz1;try have hy1:=Nat.lt_of_succ_le hz1;try have hx1:=Nat.lt_of_succ_lt hy1;try have hw1:=Nat.lt_of_succ_lt hx1));go_ret;exact⟨ret_bool HF.out.symm,BL⟩
 · have HF:=Lib.hid (show typedP F=F.blocks.all (blkT F) by rw[typedP,hx];rfl)
   have ht:=fun(w:World) (h:Below W.heap.size W w)=>refTyped_calls hF h hx
   obtain⟨A0,c0,A1,c1,A2,c2,rfl,-⟩:=id hF.open_;rw[hx]at hs;clear hx;go_enter Tryz.func18,Tryz.ntmps18;go_wp2_with(first|(go_at_call 42;refine(hs _ BL).mono ?_;(rintro e w1 ⟨rfl,hb1⟩;obtain⟨hc1,hf1⟩:=bcell hb1;have hz1:=hb1.size;try simp at hz1;try have hy1:=Nat.lt_of_succ_le hz1;try have hx1:=Nat.lt_of_succ_lt hy1;try have hw1:=Nat.lt_of_succ_lt hx1))|(go_at_call 43;refine(ht _ BL).mono ?_;(rintro e w2 ⟨rfl,hb2⟩;obtain⟨hc2,hf2⟩:=bcell hb2;have hz2:=hb2.size;try simp at hz2;try have hy2:=Nat.lt_of_succ_le hz2;try have hx2:=Nat.lt_of_succ_lt hy2;try have hw2:=Nat.lt_of_succ_lt hx2)));go_ret;exact⟨ret_bool (by rw[HF.out]),BL⟩
def lawT(F:PFunc):Bool:=fewB F&&typedP F
theorem lawTyped_calls{W w:World}{fv:Value}{F:PFunc}(hU:Uni W)(hF:FnV W W.heap.size fv F)(hW:Below W.heap.size W w) :
 Calls Tryz.prog 15 #[fv] w fun e w'=>e=.returned (.bool (lawT F))∧Below w.heap.size w w':=by
 have hs:=fun(w:World) (h:Below W.heap.size W w)=>few_calls hF h
 have hWs:=hW.size;cases hx:fewB F
 · have HF:=Lib.hid (show lawT F=false by rw[lawT,hx];rfl)
   obtain⟨A0,c0,A1,c1,A2,c2,rfl,-⟩:=id hF.open_;rw[hx]at hs;clear hx;go_enter Tryz.func15,Tryz.ntmps15;go_wp2_with(go_at_call 10;refine(hs _ BL).mono ?_;(rintro e w1 ⟨rfl,hb1⟩;obtain⟨hc1,hf1⟩:=bcell hb1;have hz1:=hb1.size;try simp at hz1;try have hy1:=Nat.lt_of_succ_le hz1;try have hx1:=Nat.lt_of_succ_lt hy1;try have hw1:=Nat.lt_of_succ_lt hx1));go_ret;exact⟨ret_bool HF.out.symm,BL⟩
 · have HF:=Lib.hid (show lawT F=typedP F by rw[lawT,hx];rfl)
   have ht:=fun(w:World) (h:Below W.heap.size W w)=>law8Typed_calls hU hF h (few_small hx)
   obtain⟨A0,c0,A1,c1,A2,c2,rfl,-⟩:=id hF.open_;rw[hx]at hs;clear hx;go_enter Tryz.func15,Tryz.ntmps15;go_wp2_with(first|(go_at_call 10;refine(hs _ BL).mono ?_;(rintro e w1 ⟨rfl,hb1⟩;obtain⟨hc1,hf1⟩:=bcell hb1;have hz1:=hb1.size;try simp at hz1;try have hy1:=Nat.lt_of_succ_le hz1;try have hx1:=Nat.lt_of_succ_lt hy1;try have hw1:=Nat.lt_of_succ_lt hx1))|(go_at_call 18;refine(ht _ BL).mono ?_;(rintro e w2 ⟨rfl,hb2⟩;obtain⟨hc2,hf2⟩:=bcell hb2;have hz2:=hb2.size;try simp at hz2;try have hy2:=Nat.lt_of_succ_le hz2;try have hx2:=Nat.lt_of_succ_lt hy2;try have hw2:=Nat.lt_of_succ_lt hx2)));go_ret;exact⟨ret_bool (by rw[HF.out]),BL⟩
end Go.Proofs.YtlhhfcleioikoaaGreatDoor
namespace Go.Proofs.YtlhhfcleioikoaaGreatDoor
open Go.RowKit
set_option maxRecDepth 100000
def fn0:PFunc:=⟨[⟨⟨#[110]⟩,0⟩,⟨⟨#[118]⟩,1⟩],[0,1],[⟨⟨#[97]⟩,[],[],⟨1,1,2,1⟩⟩,⟨⟨#[98]⟩,[],[],⟨0,0,2,0⟩⟩,⟨⟨#[99]⟩,[],[],⟨2,0,0,0⟩⟩]⟩
theorem fn0_typed:typedP fn0=true:=by decide +kernel
theorem fn0_order:ints (postO fn0).reverse=[0,1,2]:=by decide +kernel
theorem fn0_small:Small fn0:=⟨ZD,ZD,fun i hi=>by
 have:i<3:=hi
 match i,this with
 |0,_=>decide
 |1,_=>decide
 |2,_=>decide⟩
def blks0:Array Value:=#[.string ⟨#[97]⟩,.slice none 0 0,.slice none 0 0,.int .i64 1,.int .i64 1,.int .i64 2,.int .i64 1,.string ⟨#[98]⟩,.slice none 0 0,.slice none 0 0,.int .i64 0,.int .i64 0,.int .i64 2,.int .i64 0,.string ⟨#[99]⟩,.slice none 0 0,.slice none 0 0,.int .i64 2,.int .i64 0,.int .i64 0,.int .i64 0]
def vars0:Array Value:=#[.string ⟨#[110]⟩,.int .i64 0,.string ⟨#[118]⟩,.int .i64 1]
theorem sl_nil{α:Type}{B:Nat}{sz:Nat}{R:Nat→Nat→α→Prop}:Sl B (.slice none 0 0) ([]:List α) sz R:=⟨none,0,rfl,by simp[Len],Nat.le_refl _,fun i x hx=>by simp at hx⟩
theorem fn0_at{w:World}{b0 b1 b2:Nat}(h0:b0<w.heap.size)(h1:b1<w.heap.size)(h2:b2<w.heap.size)(c0:∀j,w.cell? ⟨b0,j,none⟩=vars0[j]?)(c1:∀j,w.cell? ⟨b1,j,none⟩=(#[.int .i64 0,.int .i64 1]:Array Value)[j]?)(c2:∀j,w.cell? ⟨b2,j,none⟩=blks0[j]?) :
 FnV w w.heap.size (.agg #[.slice (some ⟨b0,0,none⟩) 2 2,.slice (some ⟨b1,0,none⟩) 2 2,.slice (some ⟨b2,0,none⟩) 3 3]) fn0:=by
 refine⟨_,_,_,rfl,⟨_,_,rfl,by simp[Len,fn0],ZD,fun i x hx=>?_⟩,⟨_,_,rfl,by simp[Len,fn0],ZD,fun i x hx=>?_⟩,⟨_,_,rfl,by simp[Len,fn0],ZD,fun i x hx=>?_⟩⟩
 · refine⟨b0,0,rfl,h0,?_⟩
   match i,hx with
   |0,hx=>cases hx;exact⟨ZD,c0 0,c0 1⟩
   |1,hx=>cases hx;exact⟨ZD,c0 2,c0 3⟩
 · refine⟨b1,0,rfl,h1,?_⟩
   match i,hx with
   |0,hx=>cases hx;exact c1 0
   |1,hx=>cases hx;exact c1 1
 · refine⟨b2,0,rfl,h2,?_⟩
   match i,hx with
   |0,hx=>cases hx;exact⟨ZD,c2 0,⟨_,c2 1,sl_nil⟩,⟨_,c2 2,sl_nil⟩,c2 3,c2 4,c2 5,c2 6⟩
   |1,hx=>cases hx;exact⟨ZD,c2 7,⟨_,c2 8,sl_nil⟩,⟨_,c2 9,sl_nil⟩,c2 10,c2 11,c2 12,c2 13⟩
   |2,hx=>cases hx;exact⟨ZD,c2 14,⟨_,c2 15,sl_nil⟩,⟨_,c2 16,sl_nil⟩,c2 17,c2 18,c2 19,c2 20⟩
theorem fn0_nophis:∀b∈fn0.blocks,b.phis=[]:=by
 intro b hb;simp only[fn0,List.mem_cons,List.mem_nil_iff,or_false]at hb;rcases hb with rfl|rfl|rfl<;>rfl
end Go.Proofs.YtlhhfcleioikoaaGreatDoor
