/- The walk of the document's block: a block's instructions, merged. -/
import Derived.Test.YtjlclkcmfokobaaGreatDoorMgEZ
import Derived.Test.YtjlclkcmfokobaaGreatDoorMgRZ
import Derived.Test.YtjlclkcmfokobaaGreatDoorCopyZ
namespace Go.Proofs.YtjlclkcmfokobaaGreatDoor
open Go.RowKit
set_option maxRecDepth 100000
def Ygz:Value→Nat
 |.slice _ n _=>n
 |_=>0
theorem Yjd{p:PInst→Bool}{R:List PInst}{i:Nat}{y:PInst}(h:R[i]?=some y):(R.take (i+1)).filter p=(R.take i).filter p++if p y then [y] else []:=by
 rw[List.take_add_one,h,List.filter_append];cases hp:p y<;>simp[hp]
set_option maxHeartbeats 16000000 in
theorem Yo1{W w:World}{fv:Value}{F:PFunc}{lv:Value}{L:List PInst}(hF:FnV W W.heap.size fv F)(hW:Below W.heap.size W w)(hT:Yd F=true)(hO:Yr F=true)(hL:SInsts W W.heap.size lv L)(hok:∀y∈L,OkI y)(hn:L.length≤1024) :
 Calls Tryz.prog 42 #[fv,lv] w fun e w'=>(∃v,e=.returned v∧RRow w' w.heap.size 44 4 (CE W.heap.size w') v (mrgL (kF F) L))∧Below w.heap.size w w':=by
 have hWs:=hW.size;obtain⟨B,hB0⟩:∃B,w.heap.size=B:=⟨_,rfl⟩;obtain⟨Bo,hBo0⟩:∃Bo,W.heap.size=Bo:=⟨_,rfl⟩;have hBo:Bo≤B:=by omega
 have HFX:=Lh (fun(w':World) (h:Below W.heap.size W w') (x:PInst) (hx:OkI x) (A:Option Addr) (c:Nat) (D:Nat→Prop) (hd:DInts w' D (.slice A x.args.length c) x.args)=>Yi9 hF h hT hx hd);have HNO:=Lh (fun(x:PInst) (hx:OkI x) (h:fixP (kF F) x=none)=>Yi7 hT hO hx.sh h);have HSO:=Lh (fun(x:PInst) (hx:OkI x) (n:Int) (h:fixP (kF F) x=some n)=>YoU hT hO hx.sh h);have hd0:=YoZ (Bo:=W.heap.size) (D:=fun b=>b<W.heap.size) hL hW (Nr _) (fun _ h=>h);obtain⟨A0,c0,A1,c1,A2,c2,rfl,l0,l1,l2,-⟩:=id hF.open_;have hbA:Below w.heap.size w (w.alloc (.cells #[.slice A0 F.vars.length c0,.slice A1 F.params.length c1,.slice A2 F.blocks.length c2] 26)):=YO _ _;have x0:BoxAt (w.alloc (.cells #[.slice A0 F.vars.length c0,.slice A1 F.params.length c1,.slice A2 F.blocks.length c2] 26)) w.heap.size #[.slice A0 F.vars.length c0,.slice A1 F.params.length c1,.slice A2 F.blocks.length c2] 26:=BoxAt.new _ _ _;have hdA:=YoW (D':=fun b=>(Value.slice none 0 0).ownBlock≠some b) (YdY hd0 hbA (Nr _) hWs) fun _ _ _ e=>by cases e
 generalize kF F=κ at *;have HX0:=Lh x0;have HDA:=Lh hdA;have HBA:=Lh hbA;have HOK:=Lh hok;clear x0 hdA hbA hd0 hF hT hO hL hok;go_enter Tryz.func42,Tryz.ntmps42;go_wp2_with fail
 go_loopw[1,5] (fun s1 s5 wr=>∃(lv dv:Value) (xs T:List PInst),s1=lv∧s5=dv∧Hid (mrgL κ L=T++mrgL κ xs)∧T.length+xs.length≤1024∧Hid (∀y∈xs,OkI y)∧RRow wr (B+1) 44 4 (CE Bo wr) dv T∧DRow wr (fun b=>dv.ownBlock≠some b) 4 (CE Bo wr) lv xs∧BoxAt wr B #[.slice A0 F.vars.length c0,.slice A1 F.params.length c1,.slice A2 F.blocks.length c2] 26∧Below B w wr) (fun s1 _ _=>Ygz s1)
 case atStart=>exact⟨_,_,L,[],rfl,rfl,rfl,by simpa using hn,HOK.out,RRow.nil,by rw[← hBo0];exact HDA.out,by rw[← hB0];exact HX0.out,by rw[← hB0];exact HBA.out⟩
 case round=>as_aux_lemma=>
  clear HX0 HDA HBA HOK;obtain⟨lv,dv,xs,T,rfl,rfl,HEQ,hlen,HOK,hR,hD,hX,hB⟩:=hrel;obtain⟨wo,rfl⟩:∃wo:World,wo=wr:=⟨_,rfl⟩;have hBs1:B+1≤wo.heap.size:=hX.lt;have hBs:B≤wo.heap.size:=by omega
  have hWr:Below W.heap.size W wo:=hW.trans (hB.mono ZO);obtain⟨Ad,cd,rfl⟩:=hR.form;have HOW0:=Lh (fun k (h:(Value.slice Ad T.length cd).ownBlock=some k)=>(hR.lt h).2);cases xs with
  |nil=>
   as_aux_lemma=>
   obtain⟨A,c,rfl,-⟩:=Yjb hD;have HR:=Lh hR;have HB:=Lh hB;have HE2:=Lh (show mrgL κ L=T by rw[HEQ.out,YbN,List.append_nil]);simp only[List.length_nil];clear hR hD hX hB hWr HEQ;go_wp2_with fail;go_ret;exact⟨⟨_,rfl,by rw[HE2.out,hB0,hBo0];exact HR.out.rebase (Nat.le_succ _)⟩,by rw[hB0];exact HB.out⟩
  |cons x l=>
   obtain⟨b,off,c,A5,c5,rfl,hDb,hbl,k0,k1,k2,k3,hdx⟩:=Ygy hD (i:=0) (x:=x) rfl;have hlc:l.length+1≤c:=by
    obtain⟨A',c',e,h⟩:=Yjb hD;cases e;simpa using h
   simp only[Nat.zero_mul,Nat.add_zero]at k0 k1 k2 k3;simp only[List.length_cons]at hlen hD ⊢;have hxo:=HOK.out x ZS;have hlo:∀y∈l,OkI y:=fun y hy=>HOK.out y (by simp[hy])
   obtain⟨wX,hwX⟩:∃wX:World,wX=wo.alloc (.cells #[.int .i64 x.op,.int .i64 x.dst,.slice A5 x.args.length c5,.int .i64 x.num] 44):=⟨_,rfl⟩;have hbX:Below wo.heap.size wo wX:=by rw[hwX];exact YO _ _
   have bX:BoxAt wX wo.heap.size #[.int .i64 x.op,.int .i64 x.dst,.slice A5 x.args.length c5,.int .i64 x.num] 44:=by rw[hwX];exact BoxAt.new _ _ _
   have hGX:Gr B wo wX:=Gr.of hbX hBs;have hdX:=hdx.turn (EB.tr hGX);have hfx:=HFX.out wX (hWr.trans (hbX.mono hWr.size)) x hxo A5 c5 _ hdX;have p0:=(hX.below hbX ZO).cell 0;have p1:=(hX.below hbX ZO).cell 1;have p2:=(hX.below hbX ZO).cell 2;have pl:=(hX.below hbX ZO).lt;have y0:=bX.cell 0;have y1:=bX.cell 1;have y2:=bX.cell 2;have y3:=bX.cell 3;have yl:=bX.lt;simp at p0 p1 p2 y0 y1 y2 y3;have HR:=Lh (YbL hR hbX hBs);have HD:=Lh (YdY hD hbX hBs);have HX:=Lh (hX.below hbX ZO);have HBX:=Lh (hB.trans (hbX.mono hBs));have HDX:=Lh hdX;have HLO:=Lh hlo;have HXO:=Lh hxo;have hXs1:B+1≤wX.heap.size:=Nat.le_trans hBs1 hbX.size;have hXs:B≤wX.heap.size:=Nat.le_trans hBs hbX.size;have HXB:=Lh bX;have HWX:=Lh (hWr.trans (hbX.mono hWr.size));have hwrX:=hbX.size;clear hR hD hX hB hWr hdx hdX hGX hbX bX hxo hlo HOK hDb
   go_upto_region 4 with fail
   go_loud (rw[← hwX])
   clear hwX k0 k1 k2 k3;obtain⟨fx,hfe⟩:∃fx,Yav F x=fx:=⟨_,rfl⟩;rw[hfe]at hfx;have hfxH:=Lh hfx;clear hfx
   go_upto_region 5 with(go_at_call 17;refine hfxH.out.mono ?_;rintro e w3 ⟨rfl,hb3⟩)
   have h3s:=hb3.size;have R3:=YbL HR.out hb3 hXs;have D3:=YdY HD.out hb3 hXs;have X3:=HX.out.below hb3 HX.out.lt;have XB3:=HXB.out.below hb3 yl;have BX3:=HBX.out.trans (hb3.mono hXs);have dX3:=HDX.out.turn (EB.tr (Gr.of hb3 hXs));have W3:=HWX.out.trans (hb3.mono HWX.out.size);have x0:=XB3.cell 0;have x1:=XB3.cell 1;have x2:=XB3.cell 2;have x3:=XB3.cell 3;have xl:=XB3.lt;simp at x0 x1 x2 x3;have h3B1:B+1≤w3.heap.size:=Nat.le_trans hXs1 hb3.size;have h3B:B≤w3.heap.size:=Nat.le_trans hXs hb3.size;have HR3:=Lh R3;have HD3:=Lh D3;have HX3:=Lh X3;have HXB3:=Lh XB3;have HBX3:=Lh BX3;have HDX3:=Lh dX3;have HW3:=Lh W3;clear p0 p1 p2 pl y0 y1 y2 y3 yl hb3 R3 D3 X3 XB3 BX3 dX3 W3 HR HD HX HXB HBX HDX HWX hfxH;cases hf:fixP κ x with
   |none=>
    as_aux_lemma=>
    rw[HNO.out x HXO.out hf]at hfe;subst hfe;have HE2:=Lh (show mrgL κ L=(T++[x])++mrgL κ l by rw[HEQ.out,Ybn,Yca hf];simp);clear hf HEQ;go_wp2_with(first|(at_builtin;go_loud (refine YdZ rfl _ _ rfl rfl rfl rfl HR3.out ⟨_,rfl,HDX3.out⟩ ZO h3B1 (Nat.le_succ _) hBo ?_;intro A9 c9 w4 hR4 hg4 hG4 hk4))|(refine Yo0 rfl _ _ rfl _ Tryz.underlying35 ZK b off _ _ rfl ZO hlc ?_;intro X hX));go_roundw
    case rel=>
     exact⟨_,_,l,T++[x],rfl,rfl,HE2.out,ZX,HLO.out,by simpa using hR4,YoX (YoY HD3.out hg4 hG4 hk4) hX,HX3.out.grown hg4 (fun e=>by have:=(HR3.out.lt e).1;omega),(HBX3.out.trans (hG4.bel))⟩
    case measure=>simp[Ygz]
   |some best=>
    obtain⟨hfn,hfn0⟩:=HSO.out x HXO.out best hf;rw[hfn]at hfe;subst hfe;obtain⟨a,u,hxe,hu0,hu9⟩:=HXO.out.2.2 (Ybc hf);subst hxe;have HST:=Lh (show ∀g,g=gat κ a (Yl l) best u l l.length→mrgS κ (chk a u) l=(g.1.filter (mvP u g.2.2)++[chk a g.2.2],g.1.filter fun y=>!mvP u g.2.2 y)from fun g hg=>Ygu hf hg);have HEQ2:=Lh (show mrgL κ L=T++((mrgS κ (chk a u) l).1++mrgL κ (mrgS κ (chk a u) l).2) by rw[HEQ.out,Ybn]);have HSK:=Lh (OkI.step (k:=κ) HXO.out HLO.out);have HSL:=Lh (Ybm (k:=κ) (x:=chk a u) (l:=l))
    have HOPS:=Lh (show ∀y∈chk a u::l,0≤y.op∧y.op<27 from fun y hy=>by
     rcases List.mem_cons.1 hy with rfl|hy
     · exact⟨HXO.out.1,HXO.out.2.1⟩
     · exact⟨(HLO.out y hy).1,(HLO.out y hy).2.1⟩)
    have hlen2:(chk a u).args.length=2:=rfl;rw[hlen2]at x2 HXB3;have hdu:DInts w3 (EB Bo w3) (.slice A5 2 c5) [a,u]:=HDX3.out;obtain⟨ab,ao,rfl,hab,hEB,q0,q1⟩:=YdX hdu;obtain⟨nw,hnw⟩:∃nw,Yl l=nw:=⟨_,rfl⟩;have hwin:∀w':World,Below w3.heap.size w3 w'→Calls Tryz.prog 18 #[.slice (some ⟨b,off,none⟩) (l.length+1) c,.int .i64 0] w' fun e w''=>e=.returned (.int .i64 (nw:Int))∧Below w'.heap.size w' w'':=fun w' h=>by
     obtain⟨A',c',e,-,-,hr'⟩:=Yjc HD3.out;cases e;have:=Yi2 (c:=c) hr' ZX HOPS.out h 0 ZS;rw[← hnw];simpa using this
    have HWIN:=Lh hwin;have HNW:=Lh hnw;have HBN:=Lh (show 0≤best from hfn0);have hnwb:nw≤1024:=by have:=YcT (l:=l);omega
    have HF:=Lh hf;have hd9:decide (best<0)=false:=decide_eq_false ZO;clear hwin hnw hdu hf hfn hfn0 HEQ HDX3 hlen2
    go_upto_region 9 with(go_at_call 18;refine(HWIN.out _ (Br _ _)).mono ?_;rintro e w4 ⟨rfl,hb4⟩)
    have R4:=YbL HR3.out hb4 h3B;have D4:=YdY HD3.out hb4 h3B;have X4:=HX3.out.below hb4 HX3.out.lt;have XB4:=HXB3.out.below hb4 xl;have BX4:=HBX3.out.trans (hb4.mono h3B);have W4:=HW3.out.trans (hb4.mono HW3.out.size);have hE4:=((EB.tr (Gr.of hb4 h3B)).2 ab hEB hab).2;have r0:=(hb4.cell (p:=⟨ab,ao,none⟩) hab).trans q0;have r1:=(hb4.cell (p:=⟨ab,ao+1,none⟩) hab).trans q1;have hab4:ab<w4.heap.size:=Nt hab hb4.size;have hX4c:=XB4.cell 2;have hX4l:=XB4.lt;simp at hX4c;have h4B1:B+1≤w4.heap.size:=Nat.le_trans h3B1 hb4.size;have h4B:B≤w4.heap.size:=by omega
    have HR4:=Lh R4;have HD4:=Lh D4;have HX4:=Lh X4;have HXB4:=Lh XB4;have HBX4:=Lh BX4;have HW4:=Lh W4;have HE4:=Lh hE4;have HR0:=Lh r0;have HR1:=Lh r1;clear x0 x1 x2 x3 xl q0 q1 hab hEB hb4 R4 D4 X4 XB4 BX4 W4 hE4 r0 HR3 HD3 HX3 HXB3 HBX3 HW3 HWIN;go_wp2_with fail;clear hX4c r1
    go_loopw[7,9,10,11] (fun s7 s9 s10 s11 wr2=>∃(j p:Nat) (rv:Value),s7=.int .i64 (gat κ a nw best u l j).2.1∧s9=.int .i64 (gat κ a nw best u l j).2.2∧s10=rv∧s11=.int .i64 (p:Int)∧Hid (p=1+j)∧j≤l.length∧RRow wr2 w4.heap.size 44 4 (CE Bo wr2) rv (gat κ a nw best u l j).1∧Below w4.heap.size w4 wr2) (fun _ _ _ s11 _=>l.length+1-(intOf s11).toNat)
    case atStart=>exact⟨0,1,_,rfl,rfl,rfl,rfl,rfl,Nz _,RRow.nil,Br _ _⟩
    case round=>as_aux_lemma=>
     obtain⟨j,p,rv,rfl,rfl,rfl,rfl,HPJ,hj,hRv,hB2⟩:=hrel;obtain⟨Ar,cr,rfl⟩:=hRv.form;obtain⟨wq,rfl⟩:∃wq:World,wq=wr:=⟨_,rfl⟩;have hsz:=hB2.size
     by_cases hlt:j<l.length
     · as_aux_lemma=>
       obtain⟨y,hy⟩:∃y,l[j]?=some y:=⟨_,List.getElem?_eq_getElem hlt⟩;have hyo:=HLO.out y (List.mem_of_getElem? hy);have Dq:=YdY HD4.out hB2 h4B;obtain⟨b',off',c',A6,c6,e,hDb,hbl,k0,k1,k2,k3,hdy⟩:=Ygy Dq (i:=p) (x:=y) (by rw[HPJ.out,Nat.add_comm];simpa using hy);cases e;have hpl:decide ((p:Int)<(l.length:Int)+1)=true:=decide_eq_true (by have:=HPJ.out;omega);have hpn:p<l.length+1:=by have:=HPJ.out;omega
       have hqB:B≤wq.heap.size:=by omega
       have hfy:∀w1:World,Below wq.heap.size wq w1→Calls Tryz.prog 17 #[.agg #[.slice A0 F.vars.length c0,.slice A1 F.params.length c1,.slice A2 F.blocks.length c2],.agg #[.int .i64 y.op,.int .i64 y.dst,.slice A6 y.args.length c6,.int .i64 y.num]] w1 fun e w'=>e=.returned (.int .i64 (Yav F y))∧Below w1.heap.size w1 w':=fun w1 h=>HFX.out w1 (HW4.out.trans ((hB2.trans (h.mono hsz)).mono HW4.out.size)) y hyo A6 c6 _ (hdy.turn (EB.tr (Gr.of h hqB)))
       obtain⟨fy,hfe⟩:∃fy,Yav F y=fy:=⟨_,rfl⟩;rw[hfe]at hfy;have HFY:=Lh hfy;have X5:=HX4.out.below hB2 HX4.out.lt;have p0:=X5.cell 0;have p1:=X5.cell 1;have p2:=X5.cell 2;have pl:=X5.lt;simp at p0 p1 p2;have XB5:=HXB4.out.below hB2 HXB4.out.lt;have e2:=XB5.cell 2;have el:=XB5.lt;simp at e2;have a0:=(hB2.cell (p:=⟨ab,ao,none⟩) hab4).trans HR0.out;have habq:ab<wq.heap.size:=Nt hab4 hsz;have HY:=Lh hy;have HYO:=Lh hyo;have HDY:=Lh hdy;have HRV:=Lh hRv;have HB2:=Lh hB2;have HFE:=Lh hfe;generalize hG:gat κ a nw best u l j=G at *;have HG:=Lh hG;clear hG hy hyo Dq hDb hfy X5 XB5 hdy hRv hB2 hfe HD4 HXB4 HX4;obtain⟨fo,hfo⟩:∃fo,fixP κ y=fo:=⟨_,rfl⟩;obtain⟨th,hth⟩:∃th:Bool,(fo.isNone||!(decide (j<nw∧ith y.args 0=a)))=th:=⟨_,rfl⟩;have HTH:=Lh hth;have HFO:=Lh hfo;clear hth hfo
       go_upto_region 14 with fail
       refine YeE [45,46,47,48,49,50] (fun i w' v'=>(([fun _ v'=>v'=.agg #[.slice A0 F.vars.length c0,.slice A1 F.params.length c1,.slice A2 F.blocks.length c2],fun _ v'=>v'=.slice (some ⟨b,off,none⟩) (l.length+1) c,fun _ v'=>v'=.int .i64 (p:Int),fun _ v'=>v'=.pointer (some ⟨b,off+p*4,none⟩),fun _ v'=>v'=.agg #[.int .i64 y.op,.int .i64 y.dst,.slice A6 y.args.length c6,.int .i64 y.num],fun _ v'=>v'=.int .i64 fy]:List (World→Value→Prop)).getD i (fun _ _=>True)) w' v') ZK ZK ZK ZD ZK ZD ?mono ?step ?last
       case mono=>
        intro i w1 w2 v hi hb h
        match i,hi,h with
        |0,_,h=>exact h
        |1,_,h=>exact h
        |2,_,h=>exact h
        |3,_,h=>exact h
        |4,_,h=>exact h
        |5,_,h=>exact h
        |k+6,hi,_=>exact absurd hi (Nat.not_lt_of_le (Nat.le_add_left _ _))
       case step=>
        intro i o vs w1 ho hi hl hb hp K hK;have hl0:vs.length=6:=hl;clear hl;obtain⟨v0,r0,rfl,hl1⟩:=Ye (n:=5) hl0;obtain⟨v1,r1,rfl,hl2⟩:=Ye (n:=4) hl1;obtain⟨v2,r2,rfl,hl3⟩:=Ye (n:=3) hl2;obtain⟨v3,r3,rfl,hl4⟩:=Ye (n:=2) hl3;obtain⟨v4,r4,rfl,hl5⟩:=Ye (n:=1) hl4;obtain⟨v5,r5,rfl,hl6⟩:=Ye (n:=0) hl5;obtain rfl:=List.eq_nil_of_length_eq_zero hl6;clear hl0 hl1 hl2 hl3 hl4 hl5 hl6
        match i,ho,hi,hp with
        |0,ho,hi,hp=>
         obtain rfl:=Option.some.inj ho;clear hi;clear hp;simp only[Yc,Act.put,La,Lz,Lc];have z0:=(hb.cell (p:=⟨B,0,none⟩) pl).trans p0;have z1:=(hb.cell (p:=⟨B,1,none⟩) pl).trans p1;have z2:=(hb.cell (p:=⟨B,2,none⟩) pl).trans p2;have zl:B<w1.heap.size:=Nt pl hb.size;go_simp
         try go_wp2
         refine hK.out (.agg #[.slice A0 F.vars.length c0,.slice A1 F.params.length c1,.slice A2 F.blocks.length c2]) _ _ ?_ ZE rfl;simp only[Yc,Act.put,La,Lz,Lc]
        |1,ho,hi,hp=>
         obtain rfl:=Option.some.inj ho;clear hi;clear hp;simp only[Yc,Act.put,La,Lz,Lc];go_simp
         try go_wp2
         refine hK.out (.slice (some ⟨b,off,none⟩) (l.length+1) c) _ _ ?_ ZE rfl;simp only[Yc,Act.put,La,Lz,Lc]
        |2,ho,hi,hp=>
         obtain rfl:=Option.some.inj ho;clear hi;clear hp;simp only[Yc,Act.put,La,Lz,Lc];go_simp
         try go_wp2
         refine hK.out (.int .i64 (p:Int)) _ _ ?_ ZE rfl;simp only[Yc,Act.put,La,Lz,Lc]
        |3,ho,hi,hp=>
         obtain rfl:=Option.some.inj ho;clear hi;have q1:v1=.slice (some ⟨b,off,none⟩) (l.length+1) c:=hp 1 ZK;have q2:v2=.int .i64 (p:Int):=hp 2 ZK;obtain rfl:=q1;obtain rfl:=q2;clear hp;simp only[Yc,Act.put,La,Lz,Lc];go_simp
         try go_wp2
         refine hK.out (.pointer (some ⟨b,off+p*4,none⟩)) _ _ ?_ ZE rfl;simp only[Yc,Act.put,La,Lz,Lc]
        |4,ho,hi,hp=>
         obtain rfl:=Option.some.inj ho;clear hi;have q3:v3=.pointer (some ⟨b,off+p*4,none⟩):=hp 3 ZK;obtain rfl:=q3;clear hp;simp only[Yc,Act.put,La,Lz,Lc];have z0:=(hb.cell (p:=⟨b,off+p*4,none⟩) hbl).trans k0;have z1:=(hb.cell (p:=⟨b,off+p*4+1,none⟩) hbl).trans k1;have z2:=(hb.cell (p:=⟨b,off+p*4+2,none⟩) hbl).trans k2;have z3:=(hb.cell (p:=⟨b,off+p*4+3,none⟩) hbl).trans k3;have zl:b<w1.heap.size:=Nt hbl hb.size;go_simp
         try go_wp2
         refine hK.out (.agg #[.int .i64 y.op,.int .i64 y.dst,.slice A6 y.args.length c6,.int .i64 y.num]) _ _ ?_ ZE rfl;simp only[Yc,Act.put,La,Lz,Lc]
        |5,ho,hi,hp=>
         obtain rfl:=Option.some.inj ho;clear hi;have q0:v0=.agg #[.slice A0 F.vars.length c0,.slice A1 F.params.length c1,.slice A2 F.blocks.length c2]:=hp 0 ZK;have q4:v4=.agg #[.int .i64 y.op,.int .i64 y.dst,.slice A6 y.args.length c6,.int .i64 y.num]:=hp 4 ZK;obtain rfl:=q0;obtain rfl:=q4;clear hp;simp only[Yc,Act.put,La,Lz,Lc];go_simp;go_at_call 17;refine(HFY.out _ hb).mono ?_;rintro e w9 ⟨rfl,hb9⟩;refine hK.out (.int .i64 fy) _ _ ?_ (hb9) (rfl);simp only[Yc,Act.put,La,Lz,Lc]
        |k+6,_,hi,_=>exact absurd hi (Nat.not_lt_of_le (Nat.le_add_left _ _))
       case last=>
        intro vs w1 hl hb1 hp;have hl0:vs.length=6:=hl;clear hl;obtain⟨v0,r0,rfl,hl1⟩:=Ye (n:=5) hl0;obtain⟨v1,r1,rfl,hl2⟩:=Ye (n:=4) hl1;obtain⟨v2,r2,rfl,hl3⟩:=Ye (n:=3) hl2;obtain⟨v3,r3,rfl,hl4⟩:=Ye (n:=2) hl3;obtain⟨v4,r4,rfl,hl5⟩:=Ye (n:=1) hl4;obtain⟨v5,r5,rfl,hl6⟩:=Ye (n:=0) hl5;obtain rfl:=List.eq_nil_of_length_eq_zero hl6;clear hl0 hl1 hl2 hl3 hl4 hl5 hl6;have q0:v0=.agg #[.slice A0 F.vars.length c0,.slice A1 F.params.length c1,.slice A2 F.blocks.length c2]:=hp 0 (of_decide_eq_true ZK);have q1:v1=.slice (some ⟨b,off,none⟩) (l.length+1) c:=hp 1 (of_decide_eq_true ZK);have q2:v2=.int .i64 (p:Int):=hp 2 (of_decide_eq_true ZK);have q3:v3=.pointer (some ⟨b,off+p*4,none⟩):=hp 3 (of_decide_eq_true ZK);have q4:v4=.agg #[.int .i64 y.op,.int .i64 y.dst,.slice A6 y.args.length c6,.int .i64 y.num]:=hp 4 (of_decide_eq_true ZK);have q5:v5=.int .i64 fy:=hp 5 (of_decide_eq_true ZK);obtain rfl:=q0;obtain rfl:=q1;obtain rfl:=q2;obtain rfl:=q3;obtain rfl:=q4;obtain⟨rfl⟩:=q5;clear hp;simp only[Yc,Act.put,La,Lz,Lc];simp only[List.length_cons,List.length_nil,List.drop_succ_cons,List.drop_zero,Nat.zero_add,Nat.reduceAdd];have h1s:=hb1.size;have hqG:Gr B wq w1:=Gr.of hb1 hqB;have t0:=(hb1.cell (p:=⟨b,off+p*4,none⟩) hbl).trans k0;have t1:=(hb1.cell (p:=⟨b,off+p*4+1,none⟩) hbl).trans k1;have t2:=(hb1.cell (p:=⟨b,off+p*4+2,none⟩) hbl).trans k2;have t3:=(hb1.cell (p:=⟨b,off+p*4+3,none⟩) hbl).trans k3;have tl:b<w1.heap.size:=Nt hbl h1s;have e21:=(hb1.cell (p:=⟨wo.heap.size,2,none⟩) el).trans e2;have el1:wo.heap.size<w1.heap.size:=Nt el h1s;have a01:=(hb1.cell (p:=⟨ab,ao,none⟩) habq).trans a0;have abl1:ab<w1.heap.size:=Nt habq h1s;have HDY1:=Lh (HDY.out.turn (EB.tr hqG));have HB1:=Lh (HB2.out.trans (hb1.mono hsz));have HRV1:=Lh (YbL HRV.out hb1 hqB);have h1B:B≤w1.heap.size:=Nat.le_trans hqB h1s;have HT0:=Lh t0;have HT1:=Lh t1;have HT2':=Lh t2;have HT3:=Lh t3;have HGL:=Lh (show G.1.length≤j by have:=Yea (k:=κ) (a:=a) (n:=nw) (b:=best) (v:=u) (l:=l) hj;rw[HG.out]at this;exact this);have HPJ2:=Lh (show p+1=1+(j+1) by have:=HPJ.out;omega);clear hb1 hqG k0 k1 k2 k3 hbl e2 el a0 habq HDY HB2 HRV p0 p1 p2 pl HFY t0 t1 t3
        go_upto_region 15 with fail
        go_cut[71] (fun s wx=>s=.bool th∧Below w1.heap.size w1 wx)
        case first=>
         by_cases hfar:j<nw
         · have hd1':decide (nw<p)=false:=decide_eq_false (by have:=HPJ.out;omega)
           cases fo with
           |none=>
            as_aux_lemma=>
            obtain rfl:fy=-1:=by rw[← HFE.out];exact HNO.out y HYO.out HFO.out
            have HT2:=Lh (show th=true by rw[← HTH.out];rfl);clear HTH hfar
            go_quiet (fail)
            (try go_wp2_with fail)
            go_meet
            exact⟨by rw[HT2.out],BLN⟩
           |some m=>
            as_aux_lemma=>
            have hm:=HSO.out y HYO.out m HFO.out;rw[HFE.out]at hm;obtain⟨rfl,hm0⟩:=hm;have hd2:decide (fy<0)=false:=decide_eq_false ZO;obtain⟨ay,vy,rfl,-,-⟩:=HYO.out.2.2 (Ybc HFO.out);have hl2:(chk ay vy).args.length=2:=rfl;have hdy1:DInts w1 (EB Bo w1) (.slice A6 2 c6) [ay,vy]:=HDY1.out;obtain⟨yb,yo,rfl,hyb,-,hy0,-⟩:=YdX hdy1;rw[hl2]at t2;clear hdy1 hm0
            by_cases hae:ay=a
            · have hne:(ay !=a)=false:=by simp[hae]
              have HT2:=Lh (show th=false by rw[← HTH.out];simp[hfar,chk,ith,hae]);clear HTH hfar hae
              go_quiet (fail)
              (try go_wp2_with fail)
              go_meet
              exact⟨by rw[HT2.out],BLN⟩
            · have hne:(ay !=a)=true:=by simp[hae]
              have HT2:=Lh (show th=true by rw[← HTH.out];simp[chk,ith,hae]);clear HTH hfar hae
              go_quiet (fail)
              (try go_wp2_with fail)
              go_meet
              exact⟨by rw[HT2.out],BLN⟩
         · as_aux_lemma=>
           have hd1':decide (nw<p)=true:=decide_eq_true (by have:=HPJ.out;omega);have HT2:=Lh (show th=true by rw[← HTH.out];simp[hfar]);clear HTH hfar
           go_quiet (fail)
           (try go_wp2_with fail)
           go_meet
           exact⟨by rw[HT2.out],BLN⟩
        case rest=>as_aux_lemma=>
         obtain⟨rfl,hcb⟩:=hcut;have hcs:=hcb.size;have z0:=(hcb.cell (p:=⟨b,off+p*4,none⟩) tl).trans HT0.out;have z1:=(hcb.cell (p:=⟨b,off+p*4+1,none⟩) tl).trans HT1.out;have z2:=(hcb.cell (p:=⟨b,off+p*4+2,none⟩) tl).trans HT2'.out;have z3:=(hcb.cell (p:=⟨b,off+p*4+3,none⟩) tl).trans HT3.out;have zl:b<wc.heap.size:=Nt tl hcs;have hcB:B≤wc.heap.size:=Nat.le_trans h1B hcs;have HDYC:=Lh (HDY1.out.turn (EB.tr (Gr.of hcb h1B)));have HBC:=Lh (HB1.out.trans (hcb.mono HB1.out.size));have HRVC:=Lh (YbL HRV1.out hcb h1B);clear hcb t2 tl e21 el1 a01 abl1 HDY1 HB1 HRV1 HT0 HT1 HT2' HT3
         go_upto_if 71 with fail
         cases th
         · as_aux_lemma=>
           obtain⟨m,rfl,hjn,hae⟩:∃m,fo=some m∧j<nw∧ith y.args 0=a:=by
            have ht:=HTH.out;cases fo with
            |none=>cases ht
            |some m=>exact⟨m,rfl,by simpa using ht⟩
           have hm:=HSO.out y HYO.out m HFO.out;rw[HFE.out]at hm;obtain⟨rfl,-⟩:=hm;obtain⟨ay,vy,rfl,-,-⟩:=HYO.out.2.2 (Ybc HFO.out);have hl2:(chk ay vy).args.length=2:=rfl;have hdyc:DInts wc (EB Bo wc) (.slice A6 2 c6) [ay,vy]:=HDYC.out;obtain⟨yb,yo,rfl,hyb,-,-,hy1⟩:=YdX hdyc;rw[hl2]at z2;clear hdyc
           by_cases hgm:G.2.1<fy
           · as_aux_lemma=>
             have hd2:decide (fy > G.2.1)=true:=decide_eq_true hgm;have HG2:=Lh (show gat κ a nw best u l (j+1)=(G.1,fy,vy) by rw[YbC HY.out,HG.out,YcU HFO.out ⟨hjn,hae⟩ hgm];rfl);clear hgm hjn hae HTH HFO HDYC
             go_upto_region 18 with fail
             go_quiet (fail)
             generalize hwd:wc.drewN nq=wd;have hBD:Below wc.heap.size wc wd:=by rw[← hwd];exact YbD (Br _ _) _
             have HRVD:=Lh (YbL HRVC.out hBD hcB);have HBD:=Lh (HBC.out.trans (hBD.mono HBC.out.size));clear hwd hBD;go_wp2_with fail;go_roundw
             case rel=>exact⟨j+1,p+1,_,by rw[HG2.out],by rw[HG2.out],rfl,ZN,HPJ2.out,hlt,by rw[HG2.out];exact HRVD.out,HBD.out⟩
             case measure=>first|(simp[intOf];done)|(simp[intOf];omega)
           · as_aux_lemma=>
             have hd2:decide (fy > G.2.1)=false:=decide_eq_false hgm;have HG2:=Lh (show gat κ a nw best u l (j+1)=G by rw[YbC HY.out,HG.out,YcV HFO.out ⟨hjn,hae⟩ hgm]);clear hgm hjn hae HTH HFO HDYC;go_wp2_with fail;go_roundw
             case rel=>exact⟨j+1,p+1,_,by rw[HG2.out],by rw[HG2.out],rfl,ZN,HPJ2.out,hlt,by rw[HG2.out];exact HRVC.out,HBC.out⟩
             case measure=>first|(simp[intOf];done)|(simp[intOf];omega)
         · as_aux_lemma=>
           have HG2:=Lh (show gat κ a nw best u l (j+1)=(G.1++[y],G.2) by
            rw[YbC HY.out,HG.out];have ht:=HTH.out;cases fo with
            |none=>exact Ycs HFO.out
            |some m=>exact Ycg HFO.out (by simpa[Decidable.imp_iff_not_or]using ht))
           have hgl:=HGL.out;have hH:w4.heap.size≤wc.heap.size:=HBC.out.size;clear HTH HFO;go_wp2_with(at_builtin;go_loud (refine YdZ rfl _ _ rfl rfl rfl rfl HRVC.out ⟨_,rfl,HDYC.out⟩ ZO hH h4B hBo ?_;intro A9 c9 w5 hR5 hg5 hG5 hk5));have HR5:=Lh hR5;have HB5:=Lh (show Below w4.heap.size w4 w5 from HBC.out.grown hg5 hH (fun k' hk'=>(HRVC.out.lt hk').1));clear hR5 hg5 hG5 hk5;go_roundw
           case rel=>exact⟨j+1,p+1,_,by rw[HG2.out],by rw[HG2.out],rfl,ZN,HPJ2.out,hlt,by rw[HG2.out];exact HR5.out,HB5.out⟩
           case measure=>first|(simp[intOf];done)|(simp[intOf];omega)
     · as_aux_lemma=>
       obtain rfl:j=l.length:=by omega
       have hpz:decide ((p:Int)<(l.length:Int)+1)=false:=decide_eq_false (by have:=HPJ.out;omega);have hqB1:B+1≤wq.heap.size:=Nat.le_trans h4B1 hsz;have hqB:B≤wq.heap.size:=by omega
       generalize hG:gat κ a nw best u l l.length=G at *;have hSt:=HST.out G (by rw[HNW.out,hG]);have hGl:G.1.length≤l.length:=by have:=Yea (k:=κ) (a:=a) (n:=nw) (b:=best) (v:=u) (l:=l) (Nr _);rw[hG]at this;exact this
       have HRD:=Lh (show DRow wq (fun b=>b<wq.heap.size∧(Value.slice Ad T.length cd).ownBlock≠some b) 4 (CE Bo wq) (.slice Ar G.1.length cr) G.1 from hRv.done ZO fun k hk e=>⟨(hRv.lt e).2,fun e'=>by have:=(HR4.out.lt e').2;omega⟩);have HRQ:=Lh (YbL HR4.out hB2 h4B);have HXQ:=Lh (HX4.out.below hB2 HX4.out.lt);have XBq:=HXB4.out.below hB2 HXB4.out.lt;have HBQ:=Lh (HBX4.out.trans (hB2.mono h4B));have HEQ4:=Lh ((EB.tr (Gr.of hB2 h4B)).2 ab HE4.out hab4).2;have HQ0:=Lh ((hB2.cell (p:=⟨ab,ao,none⟩) hab4).trans HR0.out);have HQ1:=Lh ((hB2.cell (p:=⟨ab,ao+1,none⟩) hab4).trans HR1.out);have habq:ab<wq.heap.size:=Nt hab4 hsz;have hwoq:wo.heap.size<wq.heap.size:=XBq.lt;have hx2:=XBq.cell 2;simp at hx2;have HX2:=Lh hx2;have HOA:=Lh (show(Value.slice Ad T.length cd).ownBlock≠some wo.heap.size from fun e=>by have:=HOW0.out _ e;omega);have HOB:=Lh (show(Value.slice Ad T.length cd).ownBlock≠some B from fun e=>by have:=(HR4.out.lt e).1;omega);have HSt:=Lh hSt;have HGL:=Lh hGl;clear hRv hB2 hG hSt XBq hx2 HR4 HD4 HX4 HXB4 HBX4 HW4 HE4 HR0 HR1 hj HST;go_wp2_with fail
       go_loopw[5,13,92] (fun s5 s13 s92 wr=>∃(i:Nat) (d3 l3:Value),s5=d3∧s13=l3∧s92=.int .i64 (i:Int)∧i≤G.1.length∧RRow wr (B+1) 44 4 (CE Bo wr) d3 (T++(G.1.take i).filter (mvP u G.2.2))∧RRow wr wq.heap.size 44 4 (CE Bo wr) l3 ((G.1.take i).filter fun y=>!mvP u G.2.2 y)∧Hid (∀k,d3.ownBlock=some k→l3.ownBlock≠some k)∧Hid (∀k,d3.ownBlock=some k→(Value.slice Ad T.length cd).ownBlock=some k∨wq.heap.size≤k)∧Gr B wq wr∧Kp (fun b=>b<wq.heap.size∧(Value.slice Ad T.length cd).ownBlock≠some b) wq wr) (fun _ _ s92 _=>G.1.length-(intOf s92).toNat)
       case atStart=>exact⟨0,_,_,rfl,rfl,rfl,Nz _,by simpa using HRQ.out,by simpa using RRow.nil,fun _ _ e=>(by cases e),fun _ e=>.inl e,Gr.refl,Kp.refl⟩
       case round=>as_aux_lemma=>
        obtain⟨i,d3,l3,rfl,rfl,rfl,hi,hR3,hL3,HNE,HOW,hG3,hK3⟩:=hrel;obtain⟨wp,rfl⟩:∃wp:World,wp=wr:=⟨_,rfl⟩;obtain⟨Ad3,cd3,rfl⟩:=hR3.form;obtain⟨Al3,cl3,rfl⟩:=hL3.form;have hps:=hG3.bel.size;have hpB1:B+1≤wp.heap.size:=Nat.le_trans hqB1 hps;have hpB:B≤wp.heap.size:=by omega
        have f2:=(hK3.cell (b:=wo.heap.size) (o:=2) ⟨hwoq,HOA.out⟩ hwoq).trans HX2.out;have fl:wo.heap.size<wp.heap.size:=Nt hwoq hps;have g0:=(EB.cell (o:=ao) hG3 HEQ4.out).trans HQ0.out;have g1:=(EB.cell (o:=ao+1) hG3 HEQ4.out).trans HQ1.out;have gl:ab<wp.heap.size:=Nt habq hps;have hnT:(T++(G.1.take i).filter (mvP u G.2.2)).length≤3000:=by
         have h1:=List.length_filter_le (mvP u G.2.2) (G.1.take i);rw[List.length_take]at h1;have:=HGL.out;rw[List.length_append];omega
        have hnL:((G.1.take i).filter fun y=>!mvP u G.2.2 y).length≤3000:=by
         have h1:=List.length_filter_le (fun y=>!mvP u G.2.2 y) (G.1.take i);rw[List.length_take]at h1;have:=HGL.out;omega
        obtain⟨M,hM⟩:∃M,T++(G.1.take i).filter (mvP u G.2.2)=M:=⟨_,rfl⟩;obtain⟨N,hN⟩:∃N,((G.1.take i).filter fun y=>!mvP u G.2.2 y)=N:=⟨_,rfl⟩;rw[hM]at hR3 hnT HNE HOW;rw[hN]at hL3 hnL HNE
        go_loud (rw[hM,hN])
        have HM:=Lh hM;have HN:=Lh hN;have HR3:=Lh hR3;have HL3:=Lh hL3;have HG3:=Lh hG3;have HK3:=Lh hK3;clear hM hN hR3 hL3 hG3 hK3
        by_cases hil:i<G.1.length
        · as_aux_lemma=>
          obtain⟨y,hy⟩:∃y,G.1[i]?=some y:=⟨_,List.getElem?_eq_getElem hil⟩;obtain⟨bR,oR,cR,A6,c6,e,hDb,hbl,k0,k1,k2,k3,hdy⟩:=Ygy (Yja HRD.out HG3.out HK3.out) hy;cases e;obtain⟨wY,hwY⟩:∃wY:World,wY=wp.alloc (.cells #[.int .i64 y.op,.int .i64 y.dst,.slice A6 y.args.length c6,.int .i64 y.num] 44):=⟨_,rfl⟩;have hbY:Below wp.heap.size wp wY:=by rw[hwY];exact YO _ _
          have bY:BoxAt wY wp.heap.size #[.int .i64 y.op,.int .i64 y.dst,.slice A6 y.args.length c6,.int .i64 y.num] 44:=by rw[hwY];exact BoxAt.new _ _ _
          have hYs:=hbY.size;have hYB1:B+1≤wY.heap.size:=Nat.le_trans hpB1 hYs;have hYB:B≤wY.heap.size:=by omega
          have hYq:wq.heap.size≤wY.heap.size:=Nat.le_trans hps hYs;have hGY:Gr B wp wY:=Gr.of hbY hpB;have HRY:=Lh (YbL HR3.out hbY hpB);have HLY:=Lh (YbL HL3.out hbY hpB);have HDY:=Lh (hdy.turn (EB.tr hGY));have HGY:=Lh (HG3.out.trans hGY);have HKY:=Lh (HK3.out.trans (Kp.below (B:=wp.heap.size) hbY fun _ h _=>h));have s0:=bY.cell 0;have s1:=bY.cell 1;have s2:=bY.cell 2;have s3:=bY.cell 3;have sl:=bY.lt;simp at s0 s1 s2 s3;have f2':=(hbY.cell (p:=⟨wo.heap.size,2,none⟩) fl).trans f2;have fl':wo.heap.size<wY.heap.size:=Nt fl hYs;have g1':=(hbY.cell (p:=⟨ab,ao+1,none⟩) gl).trans g1;have gl':ab<wY.heap.size:=Nt gl hYs;have HFS:=Lh (Yjd (p:=mvP u G.2.2) hy);have HFN:=Lh (Yjd (p:=fun y=>!mvP u G.2.2 y) hy);have HRL:=Lh (fun k h=>(HR3.out.lt (k:=k) h).2);have HLL:=Lh (fun k h=>(HL3.out.lt (k:=k) h));clear hdy hGY hbY bY hDb
          go_upto_region 23 with fail
          go_loud (rw[← hwY])
          clear hwY k0 k1 k2 k3 hbl f2 fl g0 g1 gl HR3 HL3 HG3 HK3;obtain⟨th,hth⟩:∃th,mvP u G.2.2 y=th:=⟨_,rfl⟩;have HTH:=Lh hth;clear hth
          go_cut[107] (fun s wx=>s=.bool th∧wx=wY)
          case first=>
           by_cases hv:G.2.2=u
           · as_aux_lemma=>
             have d1:(G.2.2 !=u)=false:=by simp[hv]
             have HT2:=Lh (show th=false by rw[← HTH.out];simp[mvP,hv]);clear hv HTH;go_wp2_with fail
             go_meet
             exact⟨by rw[HT2.out],rfl⟩
           · have d1:(G.2.2 !=u)=true:=by simp[hv]
             by_cases hyd:y.dst=G.2.2
             · as_aux_lemma=>
               have d2:(y.dst==G.2.2)=true:=by simp[hyd]
               have HT2:=Lh (show th=true by rw[← HTH.out];simp[mvP,hv,hyd]);clear hv hyd HTH;go_wp2_with fail
               go_meet
               exact⟨by rw[HT2.out],rfl⟩
             · as_aux_lemma=>
               have d2:(y.dst==G.2.2)=false:=by simp[hyd]
               have HT2:=Lh (show th=false by rw[← HTH.out];simp[mvP,hyd]);clear hv hyd HTH;go_wp2_with fail
               go_meet
               exact⟨by rw[HT2.out],rfl⟩
          case rest=>as_aux_lemma=>
           obtain⟨rfl,rfl⟩:=hcut
           go_upto_if 107 with fail
           clear f2' fl' g1' gl';cases th
           · as_aux_lemma=>
             have HLN:=Lh (show N++[y]=(G.1.take (i+1)).filter fun y=>!mvP u G.2.2 y by rw[HFN.out,HTH.out,HN.out];rfl);have HMN:=Lh (show M=T++(G.1.take (i+1)).filter (mvP u G.2.2) by rw[HFS.out,HTH.out,← HM.out];simp);go_wp2_with(at_builtin;go_loud (refine YdZ rfl _ _ rfl rfl rfl rfl HLY.out ⟨_,rfl,HDY.out⟩ ZO hYq hqB hBo ?_;intro A9 c9 w5 hR5 hg5 hG5 hk5));have HR5:=Lh hR5;have Hg5:=Lh hg5;have HG5:=Lh hG5;have Hk5:=Lh hk5;clear hR5 hg5 hG5 hk5;go_roundw
             case rel=>
              refine⟨i+1,_,_,rfl,rfl,ZN,hil,?_,by rw[← HLN.out];exact HR5.out,fun k h e=>?_,HOW.out,HGY.out.trans HG5.out,HKY.out.grown Hg5.out fun k e h=>?_⟩
              · rw[← HMN.out]
                exact YcN HRY.out HG5.out fun k e=>Hg5.out.block k (HRY.out.lt e).2 fun e'=>HNE.out k e e'.symm
              · rcases Hk5.out k e with e'|e'
                · exact HNE.out k h e'
                · have:=HRL.out k h
                  omega
              · have:=(HLL.out k e).1
                omega
             case measure=>first|(simp[intOf];done)|(simp[intOf];omega)
           · as_aux_lemma=>
             have HLN:=Lh (show N=(G.1.take (i+1)).filter fun y=>!mvP u G.2.2 y by rw[HFN.out,HTH.out,← HN.out];simp);have HMN:=Lh (show M++[y]=T++(G.1.take (i+1)).filter (mvP u G.2.2) by rw[HFS.out,HTH.out,← HM.out];simp);go_wp2_with(at_builtin;go_loud (refine YdZ rfl _ _ rfl rfl rfl rfl HRY.out ⟨_,rfl,HDY.out⟩ ZO hYB1 (Nat.le_succ _) hBo ?_;intro A9 c9 w5 hR5 hg5 hG5 hk5));have HR5:=Lh hR5;have Hg5:=Lh hg5;have HG5:=Lh hG5;have Hk5:=Lh hk5;clear hR5 hg5 hG5 hk5;go_roundw
             case rel=>
              refine⟨i+1,_,_,rfl,rfl,ZN,hil,by rw[← HMN.out];exact HR5.out,?_,fun k h e=>?_,fun k h=>?_,HGY.out.trans HG5.out,HKY.out.grown Hg5.out fun k e h=>?_⟩
              · rw[← HLN.out]
                exact YcN HLY.out HG5.out fun k e=>Hg5.out.block k (HLY.out.lt e).2 fun e'=>HNE.out k e'.symm e
              · rcases Hk5.out k h with e'|e'
                · exact HNE.out k e' e
                · have:=(HLL.out k e).2
                  omega
              · rcases Hk5.out k h with e'|e'
                · exact HOW.out k e'
                · exact .inr ZO
              · rcases HOW.out k e with e'|e'
                · exact h.2 e'
                · have:=h.1
                  omega
             case measure=>first|(simp[intOf];done)|(simp[intOf];omega)
        · as_aux_lemma=>
          obtain rfl:i=G.1.length:=by omega
          have hiz:decide ((G.1.length:Int)<(G.1.length:Int))=false:=by simp
          have HSE:=Lh (show mrgL κ L=M++[chk a G.2.2]++mrgL κ N by
           have h1:=HM.out;have h2:=HN.out;rw[List.take_length]at h1 h2;rw[HEQ2.out,HSt.out,← h1,← h2]
           simp)
          have HLE:=Lh (show(M++[chk a G.2.2]).length+N.length≤1024 by
           have h0:=HSL.out.1;have h1:=HM.out;have h2:=HN.out;rw[HSt.out]at h0;rw[List.take_length]at h1 h2;rw[← h1,← h2];simp only[List.length_append,List.length_cons,List.length_nil]at h0⊢
           omega)
          have HNL:=Lh (show N.length≤l.length by
           have h0:=HSL.out.2;have h2:=HN.out;rw[HSt.out]at h0;rw[List.take_length]at h2;rw[← h2]
           exact h0)
          have HOKN:=Lh (show ∀y∈N,OkI y from fun y hy=>by
           have h0:=HSK.out y;rw[HSt.out]at h0;refine h0 (List.mem_append_right _ ?_);have h2:=HN.out;rw[List.take_length]at h2;rw[h2]
           exact hy)
          obtain⟨wI,hwI⟩:∃wI:World,wI=wp.alloc (.cells #[.int .i64 a,.int .i64 G.2.2] 3):=⟨_,rfl⟩;have hbI:Below wp.heap.size wp wI:=by rw[hwI];exact YO _ _
          have bI:BoxAt wI wp.heap.size #[.int .i64 a,.int .i64 G.2.2] 3:=by rw[hwI];exact BoxAt.new _ _ _
          have hIn:wI.heap.size=wp.heap.size+1:=by rw[hwI];simp
          have hdI:DInts wI (EB Bo wI) (.slice (some ⟨wp.heap.size,0,none⟩) 2 2) [a,G.2.2]:=(YiW bI).turn (Tr.mono fun _ _ h=>.inr h);have HRI:=Lh (YbL HR3.out hbI hpB);have HLI:=Lh (YbL HL3.out hbI hpB);have HXI:=Lh ((HXQ.out.kp HK3.out ⟨ZO,HOB.out⟩).below hbI ZO);have HBI:=Lh (HBQ.out.trans (HG3.out.bel.trans (hbI.mono hpB)));have HDI:=Lh hdI;have HRL:=Lh (fun k h=>(HR3.out.lt (k:=k) h).2);have HLL:=Lh (fun k h=>(HL3.out.lt (k:=k) h));have hIB1:B+1≤wI.heap.size:=by omega
          clear hdI bI hbI HR3 HL3 HXQ HBQ HG3 HK3;go_wp2_with(at_builtin;go_loud (rw[← hwI]);refine YdZ (N:=wp.heap.size+1) (x:=chk a G.2.2) rfl _ _ rfl hIn rfl rfl HRI.out ⟨_,rfl,HDI.out⟩ ZO hIB1 (Nat.le_succ _) hBo ?_;intro A9 c9 w5 hR5 hg5 hG5 hk5);have HR5:=Lh hR5;have Hg5:=Lh hg5;have HG5:=Lh hG5;have Hk5:=Lh hk5;clear hR5 hg5 hG5 hk5 hwI;go_roundw
          case rel=>
           refine⟨_,_,N,M++[chk a G.2.2],rfl,rfl,HSE.out,HLE.out,HOKN.out,HR5.out,?_,HXI.out.grown Hg5.out (fun e=>by have:=(HRI.out.lt e).1;omega),HBI.out.trans HG5.out.bel⟩;have hL5:=YcN HLI.out HG5.out fun k e=>Hg5.out.block k (HLI.out.lt e).2 fun e'=>HNE.out k e'.symm e
           refine hL5.done ZO fun k _ e e'=>?_
           rcases Hk5.out k e' with h|h
           · exact HNE.out k h e
           · have:=(HLL.out k e).2
             omega
          case measure=>have:=HNL.out;simp[Ygz];omega
def CBE(W w:World)(base:Nat)(cs:List Value)(x:PBlock×Value×Value):Prop:=
 cs=[.string x.1.name,x.2.1,x.2.2,.int .i64 x.1.term.kind,.int .i64 x.1.term.var,.int .i64 x.1.term.t0,.int .i64 x.1.term.t1]∧x.1.name.size≤maxLen∧SPhis W W.heap.size x.2.1 x.1.phis∧RRow w base 44 4 (CE W.heap.size w) x.2.2 x.1.insts
section
variable {W w w':World} {B base:Nat} {v:Value} {cs:List Value}
theorem KT.few{ts ts':List TypeId}(h:KT ts w w')(hs:∀t∈ts',t∈ts):KT ts' w w':=⟨h.size,fun b hb=>h.blk b (hb.mono hs)⟩
theorem CBE.mv{x:PBlock×Value×Value}(h:CBE W w base cs x)(hb:Below B w w')(hk:KT [3,44] w w')(hB:W.heap.size≤B):CBE W w' base cs x:=
 ⟨h.1,h.2.1,h.2.2.1,YcN h.2.2.2 ⟨hb,hk.few ZS⟩ fun k hk'=>hk.blk k ((YeL h.2.2.2 hk').mono ZS)⟩
theorem Yje{ps:List (PBlock×Value×Value)}(h:RRow w base 41 7 (CBE W w base) v ps)(hb:Below B w w')(hk:KT [3,44,41] w w')(hB:W.heap.size≤B):RRow w' base 41 7 (CBE W w' base) v ps:=
 h.kt hk ZS fun _ _ h=>h.mv hb (hk.few ZS) hB
theorem Yo2{F G:PFunc}{v0 v1 v2 vb:Value}{ps:List (PBlock×Value×Value)}(hF:FnV W W.heap.size (.agg #[v0,v1,v2]) F)(hW:Below W.heap.size W w)(h:RRow w base 41 7 (CBE W w base) vb ps)
 (he:ps.map Prod.fst=G.blocks) (h0:G.vars=F.vars) (h1:G.params=F.params) (hB:Bnd G):FnV w w.heap.size (.agg #[v0,v1,vb]) G:=by
 have hk:=Kept.of_below hW;have hs:=hW.size;obtain⟨u0,u1,u2,e,s0,s1,-⟩:=hF;simp only[Value.agg.injEq,Array.mk.injEq,List.cons.injEq,and_true]at e;obtain⟨rfl,rfl,rfl⟩:=e;refine⟨v0,v1,vb,rfl,by rw[h0];exact s0.keep hk hs,by rw[h1];exact s1.keep hk hs,?_⟩;have hn:ps.length≤1048576:=by have:=hB.blocks;rw[← he,List.length_map]at this;omega
 obtain⟨A,c,rfl,hl,hc,hr⟩:=h.done (D:=fun _=>True) hn (fun _ _ _=>trivial);rw[← he];refine⟨A,c,by rw[List.length_map],by rw[List.length_map];exact hl,by rw[List.length_map];exact hc,fun i x hx=>?_⟩;rw[List.getElem?_map]at hx;obtain⟨p,hx2,rfl⟩:=Option.map_eq_some_iff.1 hx;obtain⟨b,off,cs,ha,-,hb,-,hcells,rfl,hz,h1,h2⟩:=hr i p hx2;have hm:p.1∈G.blocks:=by rw[← he];exact List.mem_map_of_mem (List.mem_of_getElem? hx2)
 have:=hB.parts _ hm;exact⟨b,off,ha,hb,hz,hcells 0 _ rfl,⟨_,hcells 1 _ rfl,h1.keep hk hs⟩,⟨_,hcells 2 _ rfl,Yjc (h2.done (D:=fun _=>True) ZO (fun _ _ _=>trivial))⟩,hcells 3 _ rfl,hcells 4 _ rfl,hcells 5 _ rfl,hcells 6 _ rfl⟩
end
set_option maxHeartbeats 16000000 in
theorem Yo3{W w:World}{fv:Value}{F:PFunc}(hF:FnV W W.heap.size fv F)(hW:Below W.heap.size W w)(hT:Yd F=true)(hO:Yr F=true)(hN:Bnd F) :
 Calls Tryz.prog 15 #[fv] w fun e w'=>(∃v,e=.returned v∧FnV w' w'.heap.size v (mrgF F))∧Below w.heap.size w w':=by
 have hWs:=hW.size;have nv:=Yb5 hT;have nb:=hN.blocks;have HBL:=Lh (fun(n:Nat) (hn:n<F.blocks.length) (lv:Value) (hL:SInsts W W.heap.size lv (F.blk n).insts) (w':World) (h:Below W.heap.size W w')=>Yo1 hF h hT hO hL (YeI hT ZO hn) (Ygr hT hn));obtain⟨A0,c0,A1,c1,A2,c2,rfl,l0,l1,l2,-,-,-,-,-,r2⟩:=id hF.open_;unfold Len at *;have HF:=Lh hF;have HN:=Lh hN;have HR2:=Lh r2;obtain⟨wA,hwA⟩:∃wA:World,wA=((w.alloc (.cells #[.slice A0 F.vars.length c0,.slice A1 F.params.length c1,.slice A2 F.blocks.length c2] 26)).alloc (.cells #[.slice none 0 0,.slice none 0 0,.slice none 0 0] 26)).alloc (.cells #[.slice A0 F.vars.length c0,.slice A1 F.params.length c1,.slice none 0 0] 26):=⟨_,rfl⟩;have hbA:Below w.heap.size w wA:=by rw[hwA];exact BL
 have x0:BoxAt wA w.heap.size #[.slice A0 F.vars.length c0,.slice A1 F.params.length c1,.slice A2 F.blocks.length c2] 26:=by rw[hwA];exact((BoxAt.new _ _ _).alloc _).alloc _
 have x1:BoxAt wA (w.heap.size+1) #[.slice none 0 0,.slice none 0 0,.slice none 0 0] 26:=by
  rw[hwA];have:=(BoxAt.new (w.alloc (.cells #[.slice A0 F.vars.length c0,.slice A1 F.params.length c1,.slice A2 F.blocks.length c2] 26)) #[.slice none 0 0,.slice none 0 0,.slice none 0 0] 26).alloc (.cells #[.slice A0 F.vars.length c0,.slice A1 F.params.length c1,.slice none 0 0] 26);simpa using this
 have x2:BoxAt wA (w.heap.size+2) #[.slice A0 F.vars.length c0,.slice A1 F.params.length c1,.slice none 0 0] 26:=by
  rw[hwA];have:=BoxAt.new ((w.alloc (.cells #[.slice A0 F.vars.length c0,.slice A1 F.params.length c1,.slice A2 F.blocks.length c2] 26)).alloc (.cells #[.slice none 0 0,.slice none 0 0,.slice none 0 0] 26)) #[.slice A0 F.vars.length c0,.slice A1 F.params.length c1,.slice none 0 0] 26;simpa using this
 clear hF hN r2 hT hO;go_enter Tryz.func15,Tryz.ntmps15;go_wp2_with fail
 go_loud (rw[← hwA])
 clear hwA
 go_loopw[12] (fun s wr=>∃(n:Nat) (vb:Value) (ps:List (PBlock×Value×Value)),s=.int .i64 n∧n≤F.blocks.length∧Hid (ps.map Prod.fst=(F.blocks.take n).map (Ybj (kF F)))∧BoxAt wr (w.heap.size+2) #[.slice A0 F.vars.length c0,.slice A1 F.params.length c1,vb] 26∧BoxAt wr w.heap.size #[.slice A0 F.vars.length c0,.slice A1 F.params.length c1,.slice A2 F.blocks.length c2] 26∧BoxAt wr (w.heap.size+1) #[.slice none 0 0,.slice none 0 0,.slice none 0 0] 26∧RRow wr (w.heap.size+3) 41 7 (CBE W wr (w.heap.size+3)) vb ps∧Below w.heap.size w wr) (fun s _=>F.blocks.length-(intOf s).toNat)
 case atStart=>exact⟨0,_,[],rfl,Nz _,rfl,x2,x0,x1,RRow.nil,hbA⟩
 case round=>as_aux_lemma=>
  clear x0 x1 x2 hbA;obtain⟨n,vb,ps,rfl,hn,HPS,hbx,hfx,hre,hR,hB⟩:=hrel;have hWr:Below W.heap.size W wr:=hW.trans (hB.mono hWs);obtain⟨Ab,cb,rfl⟩:=hR.form;have hfl:=hfx.lt;have hpl:ps.length=n:=by
   have h1:=congrArg List.length HPS.out;rw[List.length_map,List.length_map,List.length_take,Nat.min_eq_left hn]at h1;exact h1
  have HPL:=Lh hpl;have hple:ps.length≤n:=Nat.le_of_eq hpl;clear hpl
  by_cases hlt:n<F.blocks.length
  · as_aux_lemma=>
    obtain⟨bb,off,A3,c3,A4,c4,rfl,hbb,hnz,hy0,hy1,hy2,hy3,hy4,hy5,hy6,l3,l4,k3,k4,r3,r4⟩:=HR2.out.blk hWr hlt;have HSP:=Lh (show SPhis W W.heap.size (.slice A3 (F.blk n).phis.length c3) (F.blk n).phis from⟨_,_,rfl,l3,k3,r3⟩);have HBK:=Lh (HBL.out n hlt (.slice A4 (F.blk n).insts.length c4) ⟨_,_,rfl,l4,k4,r4⟩);unfold Len at l3 l4;have hpn:=HN.out.parts _ (Y4 hlt);obtain⟨wi,rfl⟩:∃wi:World,wi=wr:=⟨_,rfl⟩;have HBX:=Lh hbx;have HFX:=Lh hfx;have HRE:=Lh hre;have HR:=Lh hR;have HB:=Lh hB;have HNZ:=Lh hnz;have hzi:=hB.size;have hb2i:=hbx.lt;obtain⟨w2,hw2⟩:∃w2:World,w2=(wi.alloc (.cells #[.string (F.blk n).name,.slice A3 (F.blk n).phis.length c3,.slice A4 (F.blk n).insts.length c4,.int .i64 (F.blk n).term.kind,.int .i64 (F.blk n).term.var,.int .i64 (F.blk n).term.t0,.int .i64 (F.blk n).term.t1] 41)).alloc (.cells #[.string (F.blk n).name,.slice A3 (F.blk n).phis.length c3,.slice A4 (F.blk n).insts.length c4,.int .i64 (F.blk n).term.kind,.int .i64 (F.blk n).term.var,.int .i64 (F.blk n).term.t0,.int .i64 (F.blk n).term.t1] 41):=⟨_,rfl⟩;have hb2:Below wi.heap.size wi w2:=by rw[hw2];exact((Br _ _).alloc (Nr _) _).alloc ZS _
    have o2:BoxAt w2 wi.heap.size #[.string (F.blk n).name,.slice A3 (F.blk n).phis.length c3,.slice A4 (F.blk n).insts.length c4,.int .i64 (F.blk n).term.kind,.int .i64 (F.blk n).term.var,.int .i64 (F.blk n).term.t0,.int .i64 (F.blk n).term.t1] 41:=by rw[hw2];exact(BoxAt.new _ _ _).alloc _
    have c2x:BoxAt w2 (wi.heap.size+1) #[.string (F.blk n).name,.slice A3 (F.blk n).phis.length c3,.slice A4 (F.blk n).insts.length c4,.int .i64 (F.blk n).term.kind,.int .i64 (F.blk n).term.var,.int .i64 (F.blk n).term.t0,.int .i64 (F.blk n).term.t1] 41:=by
     rw[hw2];have:=BoxAt.new (wi.alloc (.cells #[.string (F.blk n).name,.slice A3 (F.blk n).phis.length c3,.slice A4 (F.blk n).insts.length c4,.int .i64 (F.blk n).term.kind,.int .i64 (F.blk n).term.var,.int .i64 (F.blk n).term.t0,.int .i64 (F.blk n).term.t1] 41)) #[.string (F.blk n).name,.slice A3 (F.blk n).phis.length c3,.slice A4 (F.blk n).insts.length c4,.int .i64 (F.blk n).term.kind,.int .i64 (F.blk n).term.var,.int .i64 (F.blk n).term.t0,.int .i64 (F.blk n).term.t1] 41;simpa using this
    have hW2:=hWr.trans (hb2.mono hWr.size);have fx2:=hfx.below hb2 hfx.lt;have p0:=fx2.cell 0;have p1:=fx2.cell 1;have p2:=fx2.cell 2;have pl:=fx2.lt;have q2:=o2.cell 2;have ql:=o2.lt;simp at p0 p1 p2 q2;have HC2:=Lh c2x;have HW2:=Lh hW2;have HB2:=Lh hb2;clear hbx hfx hre hR hB hWr r3 r4 hnz o2 c2x hb2 hW2 fx2
    go_upto_region 7 with fail
    go_loud (rw[← hw2])
    clear hw2 hy0 hy1 hy2 hy3 hy4 hy5 hy6
    go_upto_region 8 with(go_at_call 42;refine(HBK.out _ HW2.out).mono ?_;rintro e w9 ⟨⟨v9,rfl,hR9⟩,hb9⟩;obtain⟨A9,c9,rfl⟩:=hR9.form;have C9:=HC2.out.below hb9 HC2.out.lt;have xf:=C9.frozen 2;have xl:=C9.lt;have x2:=C9.cell 2;simp at x2)
    obtain⟨PL,hPL⟩:∃PL,PL=mrgL (kF F) (F.blk n).insts:=⟨_,rfl⟩;rw[← hPL]at hR9;rw[← hPL];have HPL2:=Lh hPL;obtain⟨wz,hwz⟩:∃wz:World,wz=w9.setCell ⟨wi.heap.size+1,2,none⟩ (.slice A9 PL.length c9):=⟨_,rfl⟩
    go_loud (rw[← hwz])
    have hs2:=HB2.out.size;have hs9:=hb9.size;have hb29:Below wi.heap.size wi w9:=HB2.out.trans (hb9.mono hs2);have hbz:Below wi.heap.size wi wz:=by rw[hwz];exact hb29.setCell ZS _
    have hKz:KT [3,76,44] w9 wz:=by rw[hwz];exact KT.refl.setCell C9 ZS _
    have hC:BoxAt wz (wi.heap.size+1) #[.string (F.blk n).name,.slice A3 (F.blk n).phis.length c3,.slice A9 PL.length c9,.int .i64 (F.blk n).term.kind,.int .i64 (F.blk n).term.var,.int .i64 (F.blk n).term.t0,.int .i64 (F.blk n).term.t1] 41:=by rw[hwz];simpa using C9.set 2 (.slice A9 PL.length c9)
    have hIz:RRow wz w2.heap.size 44 4 (CE W.heap.size wz) (.slice A9 PL.length c9) PL:=
     YcN (B:=wi.heap.size) hR9 ⟨by rw[hwz];exact(Br _ _).setCell ZS _,hKz.few ZS⟩ (fun k hk=>hKz.blk k ((YeL hR9 hk).mono ZS)) ZO
    have hRr:=Yje (B:=wi.heap.size) HR.out hbz (KT.of_below hbz) ZO;obtain⟨cells,hOb⟩:=hRr.own;have hobb:=fun k' (hk':(Value.slice Ab ps.length cb).ownBlock=some k')=>(HR.out.lt hk').1
    have hgo:=HBX.out.below hbz HBX.out.lt;have o2:=hgo.cell 2;have ogl:=hgo.lt;simp at o2;have hwz2:=hbz.size;have hCl:=hC.lt;have hcR:wz.rangeAt (wi.heap.size+1) 0 ([.string (F.blk n).name,.slice A3 (F.blk n).phis.length c3,.slice A9 PL.length c9,.int .i64 (F.blk n).term.kind,.int .i64 (F.blk n).term.var,.int .i64 (F.blk n).term.t0,.int .i64 (F.blk n).term.t1]:List Value):=by
     have:=World.rangeAt_of_block (w:=wz) (b:=wi.heap.size+1) hC 0 7;simpa using this
    have huB:=Tryz.underlying41;have hinB:(Tryz.prog.info? 41).map (·.size)=some ([.string (F.blk n).name,.slice A3 (F.blk n).phis.length c3,.slice A9 PL.length c9,.int .i64 (F.blk n).term.kind,.int .i64 (F.blk n).term.var,.int .i64 (F.blk n).term.t0,.int .i64 (F.blk n).term.t1]:List Value).length:=by kernel_rfl
    have HIR:=Lh hIz;have HRR:=Lh hRr;have HGO:=Lh hgo;have HBZ:=Lh hbz;have HOBB:=Lh hobb;have HS:=Lh hs2;have hpl64:ps.length≤100000:=by omega
    clear hIz hRr hgo hbz hobb hC hKz hwz hPL hb29 hb9 C9 xf xl x2 hR9 p0 p1 p2 pl q2 ql
    go_wp2_with(first
     |(refine wpList_load_mid rfl 41 _ rfl (wi.heap.size+1) 0 rfl [.string (F.blk n).name,.slice A3 (F.blk n).phis.length c3,.slice A9 PL.length c9,.int .i64 (F.blk n).term.kind,.int .i64 (F.blk n).term.var,.int .i64 (F.blk n).term.t0,.int .i64 (F.blk n).term.t1] _ hcR huB rfl hinB ?_)
     |(refine Yh3 rfl _ _ _ rfl Tryz.underlying24 Tryz.info41 rfl ?_)
     |(at_builtin;refine YcA _ rfl _ _ 24 rfl (w.heap.size+3) 41 7 96 Tryz.underlying24 Tryz.info41 rfl ZD _ ps.length cells rfl hOb _ ZS #[.string (F.blk n).name,.slice A3 (F.blk n).phis.length c3,.slice A9 PL.length c9,.int .i64 (F.blk n).term.kind,.int .i64 (F.blk n).term.var,.int .i64 (F.blk n).term.t0,.int .i64 (F.blk n).term.t1] rfl rfl (by intro u hu;simp at hu;rcases hu with rfl|rfl|rfl|rfl|rfl|rfl|rfl<;>rfl) ZO ZD ZO ?_
       intro v' w3 hown3 hg3 hfr3;obtain⟨Av,cv,hv3⟩:=Yp hown3;subst hv3;have hz3:=hg3.size;simp at hz3;have hgo3:=(HGO.out.alloc (.cells #[.string (F.blk n).name,.slice A3 (F.blk n).phis.length c3,.slice A9 PL.length c9,.int .i64 (F.blk n).term.kind,.int .i64 (F.blk n).term.var,.int .i64 (F.blk n).term.t0,.int .i64 (F.blk n).term.t1] 41)).grown hg3 (fun e=>by have:=HOBB.out _ e;omega);have t3:=hgo3.cell 2;simp at t3;have t3f:=hgo3.frozen 2
       have t3l:=hgo3.lt))
    go_roundw
    case rel=>
     have hgg:(wz.alloc (.cells #[.string (F.blk n).name,.slice A3 (F.blk n).phis.length c3,.slice A9 PL.length c9,.int .i64 (F.blk n).term.kind,.int .i64 (F.blk n).term.var,.int .i64 (F.blk n).term.t0,.int .i64 (F.blk n).term.t1] 41)).grownBy w3 (Value.slice Ab ps.length cb).ownBlock:=hg3;have hKz:KT [3,44] wz (w3.setCell ⟨w.heap.size+2,2,none⟩ (.slice Av (ps.length+1) cv)):=((KT.refl.alloc _).grown (hOb.alloc _) ZS hgg).setCell hgo3 ZS _;have hBz:Below w.heap.size wz (w3.setCell ⟨w.heap.size+2,2,none⟩ (.slice Av (ps.length+1) cv)):=(((Br _ _).alloc ZO _).grown hgg ZX (fun k' hk'=>by have:=HOBB.out _ hk';omega)).setCell ZS _;refine⟨n+1,.slice Av (ps.length+1) cv,ps++[(⟨(F.blk n).name,(F.blk n).phis,PL,(F.blk n).term⟩,.slice A3 (F.blk n).phis.length c3,.slice A9 PL.length c9)],ZN,hlt,?_,?_,?_,?_,?_,?_⟩
     · show Hid (_=_)
       rw[List.map_append,HPS.out,List.take_add_one,PFunc.blk_get hlt,List.map_append];show _=_++[Ybj (kF F) (F.blk n)];rw[HPL2.out];rfl
     · simpa using hgo3.set 2 (.slice Av (ps.length+1) cv)
     · exact(((HFX.out.below HBZ.out HFX.out.lt).alloc _).grown hgg (fun e=>by have:=HOBB.out _ e;omega)).other (p:=⟨w.heap.size+2,2,none⟩) ZS _
     · exact(((HRE.out.below HBZ.out HRE.out.lt).alloc _).grown hgg (fun e=>by have:=HOBB.out _ e;omega)).other (p:=⟨w.heap.size+2,2,none⟩) ZS _
     · refine RRow.snoc (cs:=[.string (F.blk n).name,.slice A3 (F.blk n).phis.length c3,.slice A9 PL.length c9,.int .i64 (F.blk n).term.kind,.int .i64 (F.blk n).term.var,.int .i64 (F.blk n).term.t0,.int .i64 (F.blk n).term.t1]) HRR.out hOb (ownsRow_setCell_other hown3 (fun e=>by have h:=(YG hown3 e).1;change w.heap.size+3≤w.heap.size+2 at h;omega) _) rfl (fun _ _ h=>h.mv hBz hKz hWs) ?_
       refine⟨rfl,HNZ.out,HSP.out,?_⟩;exact(YcN HIR.out ⟨hBz,hKz.few ZS⟩ (fun k hk=>hKz.blk k ((YeL HIR.out hk).mono ZS)) hWs).rebase (by have:=HS.out;omega)
     · exact(((HB.out.trans (HBZ.out.mono hzi)).alloc ZO _).grown hgg ZX (fun k' hk'=>by have:=HOBB.out _ hk';omega)).setCell ZX _
    case measure=>simp[intOf];omega
  · as_aux_lemma=>
    obtain rfl:n=F.blocks.length:=by omega
    have z0:=hbx.cell 0;have z1:=hbx.cell 1;have z2:=hbx.cell 2;have zl:=hbx.lt;have e0:=hre.cell 0;have e1:=hre.cell 1;have e2:=hre.cell 2;have f0:=hre.frozen 0;have f1:=hre.frozen 1;have f2:=hre.frozen 2;have el:=hre.lt;simp at z0 z1 z2 e0 e1 e2;have HRE:=Lh hre;have HR:=Lh hR;have HB:=Lh hB;clear hbx hfx hre hR hB hWr;go_wp2;have hz:=HRE.out.set3 (a:=.slice A0 F.vars.length c0) (b:=.slice A1 F.params.length c1) (c:=.slice Ab ps.length cb);have z0:=hz.cell 0;have z1:=hz.cell 1;have z2:=hz.cell 2;simp only[List.getElem?_toArray,List.getElem?_cons_zero,List.getElem?_cons_succ]at z0 z1 z2;have hK:KT [3,44,41] wr (((wr.setCell ⟨w.heap.size+1,0,none⟩ (.slice A0 F.vars.length c0)).setCell ⟨w.heap.size+1,1,none⟩ (.slice A1 F.params.length c1)).setCell ⟨w.heap.size+1,2,none⟩ (.slice Ab ps.length cb)):=
     ((KT.refl.setCell HRE.out ZS _).setCell (HRE.out.set 0 _) ZS _).setCell ((HRE.out.set 0 _).set 1 _) ZS _
    have hBr:Below w.heap.size wr (((wr.setCell ⟨w.heap.size+1,0,none⟩ (.slice A0 F.vars.length c0)).setCell ⟨w.heap.size+1,1,none⟩ (.slice A1 F.params.length c1)).setCell ⟨w.heap.size+1,2,none⟩ (.slice Ab ps.length cb)):=
     (((Br _ _).setCell (p:=⟨w.heap.size+1,0,none⟩) ZS (.slice A0 F.vars.length c0)).setCell (p:=⟨w.heap.size+1,1,none⟩) ZS (.slice A1 F.params.length c1)).setCell (p:=⟨w.heap.size+1,2,none⟩) ZS (.slice Ab ps.length cb)
    have hBz:=HB.out.trans hBr;have hWz:=hW.trans (hBz.mono hWs);have hfn:=Yo2 (G:=mrgF F) HF.out hWz (Yje HR.out hBr hK hWs) (HPS.out.trans (by rw[List.take_length];rfl)) rfl rfl (YiY HN.out);exact bodyPost_ret (v:=.agg #[.slice A0 F.vars.length c0,.slice A1 F.params.length c1,.slice Ab ps.length cb]) (by simp[results,Tryz.results15,go_sem,z0,z1,z2]) rfl ⟨⟨_,rfl,hfn⟩,hBz⟩
end Go.Proofs.YtjlclkcmfokobaaGreatDoor
