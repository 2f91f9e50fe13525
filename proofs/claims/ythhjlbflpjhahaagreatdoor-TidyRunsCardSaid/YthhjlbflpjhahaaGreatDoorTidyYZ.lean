/- Layer 33's example: two blocks, the one behind the other, become one. -/
import Derived.Test.YthhjlbflpjhahaaGreatDoorTidyNZ
import Derived.Test.YthhjlbflpjhahaaGreatDoorTdAZ
import Derived.Test.YthhjlbflpjhahaaGreatDoorFewQZ
namespace Go.Proofs.YthhjlbflpjhahaaGreatDoor
open Go.RowKit
set_option maxRecDepth 100000
def fnY:PFunc:=⟨[⟨⟨#[110]⟩,0⟩],[0],[⟨⟨#[97]⟩,[],[⟨17,-1,[0],0⟩],⟨0,0,1,0⟩⟩,⟨⟨#[98]⟩,[],[⟨17,-1,[0],0⟩],⟨2,0,0,0⟩⟩]⟩
theorem fnY_few:fewB fnY=true:=by decide +kernel
theorem fnY_typed:typedP fnY=true:=by decide +kernel
theorem fnY_joined:joinedB fnY=true:=by decide +kernel
theorem fnY_order:(postO fnY).reverse=[0,1]:=by decide +kernel
theorem fnY_pr:prF fnY=fnY:=pr_self fnY_typed fnY_joined fun k hk=>by
 rw[← List.mem_reverse,fnY_order];have:k<2:=hk
 match k,this with
 |0,_=>simp
 |1,_=>simp
theorem fnY_fol:fol fnY 0 1=true:=by decide +kernel
theorem fnY_last(b:Nat):fol fnY 1 b=false:=by
 unfold fol;rw[show decide ((fnY.blk 1).term.kind=0)=false from ZD];simp
theorem fnY_out{G:PFunc}(h:IsT (prF fnY) G):G.blocks.length=1∧(G.blk 0).insts.length=2:=by
 rw[fnY_pr]at h;obtain⟨v,-,-,-,h3,h4⟩:=h;have hd:hds fnY=[0]:=by decide +kernel
 obtain⟨L,T,hc,hb⟩:=h4 0 0 (by rw[hd];rfl);have hc2:Ch fnY 0 ((fnY.blk 0).insts++(fnY.blk 1).insts) (fnY.blk 1).term:=.more fnY_fol (.last fnY_last);obtain⟨e,-⟩:=hc2.uniq hc;subst e;refine⟨by rw[h3,hd];rfl,?_⟩;unfold PFunc.blk;rw[List.getD_eq_getElem?_getD,hb];rfl
theorem fnY_at{w:World}{b:Nat}(hl:b+6<w.heap.size)(c0:∀j,w.cell? ⟨b,j,none⟩=(#[.int .i64 0]:Array Value)[j]?)(c2:∀j,w.cell? ⟨b+2,j,none⟩=(#[.string ⟨#[110]⟩,.int .i64 0]:Array Value)[j]?)(c3:∀j,w.cell? ⟨b+3,j,none⟩=(#[.int .i64 0]:Array Value)[j]?)
 (c4:∀j,w.cell? ⟨b+4,j,none⟩=(#[.int .i64 17,.int .i64 (-1),.slice (some ⟨b,0,none⟩) 1 1,.int .i64 0]:Array Value)[j]?) (c5:∀j,w.cell? ⟨b+5,j,none⟩=(#[.int .i64 17,.int .i64 (-1),.slice (some ⟨b,0,none⟩) 1 1,.int .i64 0]:Array Value)[j]?)
 (c6:∀j,w.cell? ⟨b+6,j,none⟩=(#[.string ⟨#[97]⟩,.slice none 0 0,.slice (some ⟨b+4,0,none⟩) 1 1,.int .i64 0,.int .i64 0,.int .i64 1,.int .i64 0,.string ⟨#[98]⟩,.slice none 0 0,.slice (some ⟨b+5,0,none⟩) 1 1,.int .i64 2,.int .i64 0,.int .i64 0,.int .i64 0]:Array Value)[j]?) :
 FnV w w.heap.size (.agg #[.slice (some ⟨b+2,0,none⟩) 1 1,.slice (some ⟨b+3,0,none⟩) 1 1,.slice (some ⟨b+6,0,none⟩) 2 2]) fnY:=by
 refine⟨_,_,_,rfl,⟨_,_,rfl,by simp[Len,fnY],ZD,fun i x hx=>?_⟩,⟨_,_,rfl,by simp[Len,fnY],ZD,fun i x hx=>?_⟩,⟨_,_,rfl,by simp[Len,fnY],ZD,fun i x hx=>?_⟩⟩
 · refine⟨b+2,0,rfl,ZO,?_⟩
   match i,hx with
   |0,hx=>cases hx;exact⟨ZD,c2 0,c2 1⟩
 · refine⟨b+3,0,rfl,ZO,?_⟩
   match i,hx with
   |0,hx=>cases hx;exact c3 0
 · refine⟨b+6,0,rfl,ZO,?_⟩
   match i,hx with
   |0,hx=>
    cases hx;refine⟨ZD,c6 0,⟨_,c6 1,sl_nil⟩,⟨_,c6 2,_,_,rfl,by simp[Len],ZD,fun i x hx=>⟨b+4,0,rfl,ZO,?_⟩⟩,c6 3,c6 4,c6 5,c6 6⟩
    match i,hx with
    |0,hx=>
     cases hx;refine⟨c4 0,c4 1,⟨_,c4 2,_,_,rfl,by simp[Len],ZD,fun i x hx=>⟨b,0,rfl,ZO,?_⟩⟩,c4 3⟩
     match i,hx with
     |0,hx=>cases hx;exact c0 0
   |1,hx=>
    cases hx;refine⟨ZD,c6 7,⟨_,c6 8,sl_nil⟩,⟨_,c6 9,_,_,rfl,by simp[Len],ZD,fun i x hx=>⟨b+5,0,rfl,ZO,?_⟩⟩,c6 10,c6 11,c6 12,c6 13⟩
    match i,hx with
    |0,hx=>
     cases hx;refine⟨c5 0,c5 1,⟨_,c5 2,_,_,rfl,by simp[Len],ZD,fun i x hx=>⟨b,0,rfl,ZO,?_⟩⟩,c5 3⟩
     match i,hx with
     |0,hx=>cases hx;exact c0 0
theorem box7{w V:World}{b0 b1 b2 b3 b4 b5 b6:Array Value}{t0 t1 t2 t3 t4 t5 t6:TypeId}(hV:V=(((((((w.alloc (.cells b0 t0)).alloc (.cells b1 t1)).alloc (.cells b2 t2)).alloc (.cells b3 t3)).alloc (.cells b4 t4)).alloc (.cells b5 t5)).alloc (.cells b6 t6))) :
 BoxAt V (w.heap.size) b0 t0∧BoxAt V (w.heap.size+2) b2 t2∧BoxAt V (w.heap.size+3) b3 t3∧BoxAt V (w.heap.size+4) b4 t4∧BoxAt V (w.heap.size+5) b5 t5∧BoxAt V (w.heap.size+6) b6 t6:=by
 subst hV;have h0:=BoxAt.new w b0 t0;have h2:=BoxAt.new ((w.alloc (.cells b0 t0)).alloc (.cells b1 t1)) b2 t2;have h3:=BoxAt.new (((w.alloc (.cells b0 t0)).alloc (.cells b1 t1)).alloc (.cells b2 t2)) b3 t3;have h4:=BoxAt.new ((((w.alloc (.cells b0 t0)).alloc (.cells b1 t1)).alloc (.cells b2 t2)).alloc (.cells b3 t3)) b4 t4;have h5:=BoxAt.new (((((w.alloc (.cells b0 t0)).alloc (.cells b1 t1)).alloc (.cells b2 t2)).alloc (.cells b3 t3)).alloc (.cells b4 t4)) b5 t5;have h6:=BoxAt.new ((((((w.alloc (.cells b0 t0)).alloc (.cells b1 t1)).alloc (.cells b2 t2)).alloc (.cells b3 t3)).alloc (.cells b4 t4)).alloc (.cells b5 t5)) b6 t6;simp only[World.size_alloc]at h2 h3 h4 h5 h6;exact⟨(((((h0.alloc _).alloc _).alloc _).alloc _).alloc _).alloc _,((((h2.alloc _).alloc _).alloc _).alloc _),((h3.alloc _).alloc _).alloc _,(h4.alloc _).alloc _,h5.alloc _,h6⟩
set_option maxHeartbeats 4000000 in
theorem livesT_calls{W w:World}(hU:Uni W)(hW:Below W.heap.size W w) :
 Calls Tryz.prog 10 #[] w fun e w'=>e=.returned (.bool true)∧Below w.heap.size w w':=by
 obtain⟨V,hV⟩:∃V:World,V=(((((((w.alloc (.cells #[.int .i64 0] 3)).alloc (.cells #[.int .i64 17,.int .i64 (-1),.slice (some ⟨w.heap.size,0,none⟩) 1 1,.int .i64 0] 67)).alloc (.cells #[.string ⟨#[110]⟩,.int .i64 0] 78)).alloc (.cells #[.int .i64 0] 3)).alloc (.cells #[.int .i64 17,.int .i64 (-1),.slice (some ⟨w.heap.size,0,none⟩) 1 1,.int .i64 0] 67)).alloc (.cells #[.int .i64 17,.int .i64 (-1),.slice (some ⟨w.heap.size,0,none⟩) 1 1,.int .i64 0] 67)).alloc (.cells #[.string ⟨#[97]⟩,.slice none 0 0,.slice (some ⟨w.heap.size+1+1+1+1,0,none⟩) 1 1,.int .i64 0,.int .i64 0,.int .i64 1,.int .i64 0,.string ⟨#[98]⟩,.slice none 0 0,.slice (some ⟨w.heap.size+1+1+1+1+1,0,none⟩) 1 1,.int .i64 2,.int .i64 0,.int .i64 0,.int .i64 0] 62)):=⟨_,rfl⟩;have hb0:Below w.heap.size w V:=by subst hV;(focus repeat(first|assumption|exact Br _ _|refine Below.drew ?_|refine Below.alloc ?_ (by first|omega|exact Below.size ZA|(simp;done)|(simp;omega)) _|(refine Below.trans ?_ (Below.mono ZA ?_);rotate_left;exact(by first|omega|exact Below.size ZA|(simp;done)|(simp;omega)))))
 have hU9:=(hU.below hW).below hb0;have hs9:V.heap.size=w.heap.size+7:=by subst hV;simp
 obtain⟨x0,x2,x3,x4,x5,x6⟩:=box7 hV;have hF1:FnV V V.heap.size (.agg #[.slice (some ⟨w.heap.size+1+1,0,none⟩) 1 1,.slice (some ⟨w.heap.size+1+1+1,0,none⟩) 1 1,.slice (some ⟨w.heap.size+1+1+1+1+1+1,0,none⟩) 2 2]) fnY:=fnY_at (b:=w.heap.size) (w:=V) ZO x0.cell x2.cell x3.cell x4.cell x5.cell x6.cell;have hBX:=BoxAt.new V #[.slice (some ⟨w.heap.size+1+1,0,none⟩) 1 1,.slice (some ⟨w.heap.size+1+1+1,0,none⟩) 1 1,.slice (some ⟨w.heap.size+1+1+1+1+1+1,0,none⟩) 2 2] 26;have hVF:=bel_alloc V (.cells #[.slice (some ⟨w.heap.size+1+1,0,none⟩) 1 1,.slice (some ⟨w.heap.size+1+1+1,0,none⟩) 1 1,.slice (some ⟨w.heap.size+1+1+1+1+1+1,0,none⟩) 2 2] 26);have h1:=straight_calls hU9 hF1 hVF (few_small fnY_few) (few_bnd fnY_few) fnY_typed fnY_joined;have h2:=fun(w':World) (h:Below V.heap.size V w')=>tidyFollowsYes_calls hU9 hF1 h (few_small fnY_few) fnY_typed 0 1
 have HB0:=Lh hb0;have HBX:=Lh hBX;have HVF:=Lh hVF;have h9:w.heap.size≤V.heap.size:=by omega
 clear x0 x2 x3 x4 x5 x6 hF1 hU9 hU hW hb0 hBX hVF;go_enter Tryz.func10,Tryz.ntmps10;go_wp2_with fail;rw[← hV];clear hV;refine h1.mono ?_;rintro e w5 ⟨⟨gv,G,rfl,hG,hGT⟩,hb5⟩;obtain⟨g1,g2⟩:=fnY_out hGT;obtain⟨A0,c0,A1,c1,A2,c2,rfl,-,-,-,-,-,-,-,-,r2⟩:=hG.open_;obtain⟨bb,off,A3,c3,A4,c4,rfl,hbb,-,-,-,hy2,-,-,-,-,-,-,-,-,-,-⟩:=r2.blk (Br _ _) (i:=0) ZO;rw[g2]at hy2;replace hy2:w5.cell? ⟨bb,off+2,none⟩=some (.slice A4 2 c4):=by simpa using hy2
 rw[g1];have hbf:=HBX.out.below hb5 HBX.out.lt;rw[show V.heap.size=w.heap.size+1+1+1+1+1+1+1 from ZO]at hbf;have q0:=hbf.cell 0;have q1:=hbf.cell 1;have q2:=hbf.cell 2;have ql:=hbf.lt;have hV5:=HVF.out.trans (hb5.mono HVF.out.size);have HB5:=Lh (HB0.out.trans (hV5.mono h9));have HV5:=Lh hV5;have hfo:=fun(w':World) (h:Below w5.heap.size w5 w')=>h2 w' (hV5.trans (h.mono hV5.size))
 rw[show(decide ((0:Int)≤0∧(0:Int)<(fnY.blocks.length:Int)∧(0:Int)≤1∧(1:Int)<(fnY.blocks.length:Int))&&fol fnY (0:Int).toNat (1:Int).toNat)=true by decide +kernel]at hfo;simp at q0 q1 q2;clear hbf hb5 hG r2 h1 h2 hGT g1 g2 hV5;go_wp2_with(go_at_call 13;refine(hfo _ BL).mono ?_;rintro e w6 ⟨rfl,hb6⟩);go_ret;exact⟨rfl,HB5.out.trans (Below.mono BL HB5.out.size)⟩
end Go.Proofs.YthhjlbflpjhahaaGreatDoor
