/- The plain law of CopiesRoots: what a run takes has what its root has. -/
import Derived.Test.YthhjlbflpjhahaaGreatDoorCpyEZ
import Derived.Test.YthhjlbflpjhahaaGreatDoorCqQZ
import Derived.Test.YthhjlbflpjhahaaGreatDoorRnQZ
import Derived.Test.YthhjlbflpjhahaaGreatDoorCrQZ
import Derived.Test.YthhjlbflpjhahaaGreatDoorRunWZ
import Derived.Test.YthhjlbflpjhahaaGreatDoorRunBZ
import Derived.Test.YthhjlbflpjhahaaGreatDoorSLwZ
import Derived.Test.YthhjlbflpjhahaaGreatDoorUniQZ
import Derived.Test.YthhjlbflpjhahaaGreatDoorGraphZ
import Derived.Test.YthhjlbflpjhahaaGreatDoorCards
import Derived.ProofKit
namespace Go.Proofs.YthhjlbflpjhahaaGreatDoor
open Go.RowKit
set_option maxRecDepth 100000
theorem YpV{F:PFunc}{m:Int→Int}{s:RSt}(S:Sgl F)(hI:RInv F s)(h:RtI F m s):∀v∈takesR F s,inV F v∧Sv s v s (m v):=by
 intro v hv;unfold takesR at hv
 by_cases h1:s.pc<(F.blk s.block).insts.length
 · rw[if_pos h1]at hv
   obtain⟨k,hk,rfl⟩:=List.getElem_of_mem hv;have h3:=(YcD S.T hI.blk h1).2 k hk;simp only[ith,List.getD,hk,List.getElem?_eq_getElem,Option.getD_some]at h3;exact⟨h3,h _ h3 (S.inst_ahead hI.blk h1 hv)⟩
 · have hpc:s.pc=(F.blk s.block).insts.length:=by have:=hI.pc;omega
   rw[if_neg h1,List.mem_append]at hv;rcases hv with hv|hv
   · by_cases h0:(F.blk s.block).term.kind=0
     · rw[if_pos h0]at hv
       cases hv
     · rw[if_neg h0,List.mem_singleton]at hv
       subst hv;have h2:=Ydm S.T hI.blk h0;refine⟨h2,h _ h2 ?_⟩;have h3:=S.B _ hI.blk;unfold YO at h3;simp only[Bool.and_eq_true]at h3;have h4:=h3.2;unfold YcU at h4;rw[decide_eq_false h0,Bool.false_or]at h4;rw[hpc];exact h4
   · rcases Yds S.T hI with⟨-,h2,-⟩|⟨c,hc,h2,-⟩
     · rw[h2,if_pos ZD]at hv
       cases hv
     · rw[h2,if_neg ZO,Int.toNat_natCast]at hv
       have hcl:=YbC S.T hI.blk c hc;unfold Ybh at hv;obtain⟨p,hp,hv⟩:=List.mem_flatMap.1 hv;obtain⟨j,-,hj,hf,rfl⟩:=YjK hv;have h3:=((rgC S.T).ph _ (YK hcl) p hp).2 _ (Ycb hj);exact⟨h3,h _ h3 (by rw[hpc];exact S.pair_ahead hcl hp hj hf)⟩
theorem Yp3{F:PFunc}(h:YF F=true):YjL F:=fun i hi=>by
 unfold YF at h;simp only[Bool.and_eq_true]at h;exact⟨(YeT h.2 _ (YK hi)).2.1,(Ye3 h.2 _ (YK hi)).1⟩
set_option maxHeartbeats 16000000 in
theorem Yp4{W:World}{fv iv:Value}{F:PFunc}{I:PIn}{n:Nat}(hU:Uni W)(hF:FnV W W.heap.size fv F)(hN:Ybf F)(hI:InV W W.heap.size iv I)(hIn:Yem I)(hn:n<65536) :
 Calls Tryz.prog 9 #[fv,iv,.int .u16 n] W fun e w'=>e=.returned (.bool true)∧Below W.heap.size W w':=by
 have hlv:=fun(w:World) (h:Below W.heap.size W w)=>Yjw hU h
 have hty:=fun(w:World) (h:Below W.heap.size W w)=>YjH hU hF h
 have hsm:=fun(w:World) (h:Below W.heap.size W w)=>YiZ hI h
 obtain⟨w,rfl⟩:∃w:World,w=W:=⟨_,rfl⟩;obtain⟨A0,c0,A1,c1,A2,c2,rfl,l0,l1,l2,-,-,-,r0,r1,r2⟩:=id hF.open_;obtain⟨B0,d0,B1,d1,rfl,m0,m1,k0,k1,q0,q1⟩:=id hI.open_;unfold Len at *;clear r0 r1 r2 q0 q1;have hx0:Below w.heap.size w ((w.alloc (.cells #[.slice A0 F.vars.length c0,.slice A1 F.params.length c1,.slice A2 F.blocks.length c2] 26)).alloc (.cells #[.slice B0 I.args.length d0,.slice B1 I.rows.length d1] 38)):=BL;cases hx:(Ybp F&&YaJ F)
 · rw[hx]at hty
   clear hx hF hI hN hIn hsm;go_enter Tryz.func9,Tryz.ntmps9;go_wp2_with fail;refine(hlv _ hx0).mono ?_;rintro e w1 ⟨rfl,hb1⟩;have hX1:InBox w1 w.heap.size _ _ _ _ _:=InBox.of (by simpa using hb1);have hB1:Below w.heap.size w w1:=hx0.trans (hb1.mono ZX);obtain⟨e0,e1,g0,g1,g2,g3,g4⟩:=hX1.all;go_wp2_with fail;refine(hty _ hB1).mono ?_;rintro e w2 ⟨rfl,hb2⟩;go_wp2_with fail;refine(hlv _ (hB1.trans (hb2.mono hB1.size))).mono ?_;rintro e w3 ⟨rfl,hb3⟩;go_wp2;go_ret;exact⟨rfl,hB1.trans ((hb2.trans (hb3.mono hb2.size)).mono hB1.size)⟩
 rw[hx]at hty;have hx1:Ybp F=true∧YaJ F=true:=by simpa using hx
 have hx2:YF F=true∧Yd F=true:=by
  have:=hx1.1;unfold Ybp at this;simpa using this
 have hS:=Ydo hx2.1;have hT:=hx2.2;obtain⟨n1,n2⟩:=Yax (Yz hT);have hpv:F.params.length≤F.vars.length:=by
  have:=Yz hT;unfold Yk at this;simp only[Bool.and_eq_true]at this;exact Yi2 this.1.1
 have hv512:F.vars.length≤512:=by
  have:=Yz hT;unfold Yk at this;simp only[Bool.and_eq_true]at this;exact Yi4 this.1.1
 have hrt:=fun(w':World) (h:Below w.heap.size w w')=>Yi0 hF hI h hpv
 have hB:=Ye4 hx2.1;have hRS:Yak F=true:=by rw[Yak,hT,hx1.2];rfl
 have HRO:=Lh (fun(w':World) (h:Below w.heap.size w w')=>Yjl hU hF h hS hB hRS ZO);have HSG:=Lh (Sgl.of hT hx1.2);have HTK:=Lh (fun(w':World) (h:Below w.heap.size w w') (D:Nat→Prop) (nb gi gb ga:Nat) (vr vt:Value) (vrs:List Value) (s:RSt) (hI':RInv F s) (hr:RunO w' D (.slice A0 F.vars.length c0) (.slice A1 F.params.length c1) (.slice A2 F.blocks.length c2) nb gi gb ga F.vars.length vr vt vrs s)=>Yp2 hF hT (Yp3 hx2.1) h hI' hr);have HBG:=Lh (fun(w':World) (h:Below w.heap.size w w') (hR:RightF F I)=>Yi3 hF hI h hR hpv hv512);have HST:=Lh (fun(w':World) (h:Below w.heap.size w w') (D:Nat→Prop) (nb gi gb ga:Nat) (vr vt:Value) (vrs:List Value) (s:RSt) (hI':RInv F s) (hr:RunO w' D (.slice A0 F.vars.length c0) (.slice A1 F.params.length c1) (.slice A2 F.blocks.length c2) nb gi gb ga F.vars.length vr vt vrs s) (hD:∀k,D k→k<w'.heap.size) (hDW:∀k,k<w.heap.size→D k)=>Yjz hF hT hS hN h hI' hr hD hDW);have HNN:=Lh hN;have HT:=Lh hT;have HIn:=Lh hIn;clear hx hx1 hx2 hF hI hN hIn hS hT hpv hB hRS;go_enter Tryz.func9,Tryz.ntmps9;go_wp2_with fail;refine(hlv _ hx0).mono ?_;rintro e w1 ⟨rfl,hb1⟩;have hX1:InBox w1 w.heap.size _ _ _ _ _:=InBox.of (by simpa using hb1);have hB1:Below w.heap.size w w1:=hx0.trans (hb1.mono ZX);obtain⟨e0,e1,g0,g1,g2,g3,g4⟩:=hX1.all;go_wp2_with fail;refine(hty _ hB1).mono ?_;rintro e w2 ⟨rfl,hb2⟩;have hX2:=hX1.below hb2 hX1.lt;have hB2:=hB1.trans (hb2.mono hB1.size);clear e0 e1 g0 g1 g2 g3 g4;obtain⟨e0,e1,g0,g1,g2,g3,g4⟩:=hX2.all;go_wp2_with fail;refine(hsm _ hB2).mono ?_;rintro e w3 ⟨⟨b,rfl⟩,hb3⟩;have hX3:=hX2.below hb3 hX2.lt;have hB3:=hB2.trans (hb3.mono hB2.size);clear e0 e1 g0 g1 g2 g3 g4 hb1 hb2 hb3 hX1 hX2 hB1 hB2 hx0;cases b
 · as_aux_lemma=>
   go_wp2_with fail;refine(hlv _ hB3).mono ?_;rintro e w4 ⟨rfl,hb4⟩;go_wp2;go_ret;exact⟨rfl,hB3.trans (hb4.mono hB3.size)⟩
 obtain⟨e0,e1,g0,g1,g2,g3,g4⟩:=hX3.all;go_wp2_with fail;refine(hrt _ hB3).mono ?_;rintro e w4 ⟨⟨r,rfl,hr⟩,hb4⟩;have hX4:=hX3.below hb4 hX3.lt;have hB4:=hB3.trans (hb4.mono hB3.size);clear e0 e1 g0 g1 g2 g3 g4 hb4 hX3 hB3
 by_cases hr0:r=0
 · as_aux_lemma=>
   have HR:=Lh (hr hr0);subst hr0;clear hr hlv hty hsm hrt;obtain⟨e0,e1,g0,g1,g2,g3,g4⟩:=hX4.all;go_wp2_with fail;refine(HRO.out _ hB4).mono ?_;rintro e w6 ⟨⟨Ar,cr,m,fr,rfl,hroot,hgn⟩,hb6⟩;have hX6:=hX4.below hb6 hX4.lt;have hB6:=hB4.trans (hb6.mono hB4.size);have HGC:=Lh hgn.c;have HRT:=Lh hroot;clear e0 e1 g0 g1 g2 g3 g4 hX4 hB4 hb6 hgn hroot HRO;obtain⟨e0,e1,g0,g1,g2,g3,g4⟩:=hX6.all;go_wp2_with fail;refine(HBG.out _ hB6 HR.out).mono ?_;rintro e w7 ⟨nb,gi,gb,ga,vr,vrs,rfl,hR7,hb7⟩;have HX6:=Lh hX6;have HB6:=Lh hB6;have HR7:=Lh hR7;have Hb7:=Lh hb7;clear e0 e1 g0 g1 g2 g3 g4 hX6 hB6 hR7 hb7 HBG;obtain⟨kk,hkk⟩:∃kk:Nat,kk=n%501:=⟨_,rfl⟩;obtain⟨hmod,hmod2⟩:=Yoe n;rw[← hkk]at hmod hmod2;have hk501:kk<501:=by rw[hkk];exact Nat.mod_lt _ ZD
   clear hkk;have s67:=Hb7.out.size;go_wp2
   go_loopw[45] (fun x wr=>∃(i:Nat) (s:RSt) (vr' vt':Value) (vrs':List Value),x=.int .i64 i∧i≤kk∧RunO wr (fun k=>k<w6.heap.size) (.slice A0 F.vars.length c0) (.slice A1 F.params.length c1) (.slice A2 F.blocks.length c2) nb gi gb ga F.vars.length vr' vt' vrs' s∧Hid (RInv F s∧RtI F m s)∧Kp (fun k=>k<w6.heap.size) w7 wr) (fun x _=>kk-(intOf x).toNat)
   case atStart=>exact⟨0,YR F I,_,_,_,rfl,Nz _,HR7.out,⟨Ye7 HT.out HR.out HIn.out,RtI.start HSG.out HGC.out rfl rfl⟩,Kp.refl⟩
   case round=>as_aux_lemma=>
    obtain⟨i,s,vr',vt',vrs',rfl,hi,h4,hIV,k4⟩:=hrel;have hBr:Below w6.heap.size w6 wr:=Hb7.out.trans (Kp.to_below (B:=w6.heap.size) k4 (fun k hk=>hk) s67);have hWr:=HB6.out.trans (hBr.mono HB6.out.size)
    by_cases hlt:i<kk
    · as_aux_lemma=>
      have hik:(i:Int)<(kk:Int):=by omega
      have xl:=h4.box.lt;have z22:=h4.box.cell 22;replace z22:wr.cell? ⟨nb,22,none⟩=some (.bool s.ended):=z22;cases hen:s.ended
      · as_aux_lemma=>
        rw[hen]at z22;have htk:=HTK.out wr hWr _ nb gi gb ga vr' vt' vrs' s hIV.out.1 h4;have HTM:=Lh (YpV HSG.out hIV.out.1 hIV.out.2);have H4:=Lh h4;have HBr:=Lh hBr;have HK4:=Lh k4;clear hen h4 hBr hWr k4;obtain⟨wo,rfl⟩:∃wo:World,wo=wr:=⟨_,rfl⟩;go_wp2_with fail;refine htk.mono ?_;rintro e w9 ⟨v9,rfl,hv9,hb9⟩;have HV9:=Lh hv9;obtain⟨A9,c9,rfl,-,hl9,-⟩:=id hv9;have HB9:=Lh hb9;obtain⟨LT,hLT⟩:∃l:List Int,takesR F s=l:=⟨_,rfl⟩;rw[hLT]at HV9 HTM hl9 ⊢;clear hv9 hb9 htk hLT xl z22;go_wp2
        go_loopw[54] (fun x wr=>∃j:Nat,x=.int .i64 j∧j≤LT.length∧Below w9.heap.size w9 wr) (fun x _=>LT.length-(intOf x).toNat)
        case atStart=>exact⟨0,rfl,Nz _,Br _ _⟩
        case round=>as_aux_lemma=>
         obtain⟨j,rfl,hj,hb⟩:=hrel;have hb9:=HB9.out.trans (hb.mono HB9.out.size)
         by_cases hjl:j<LT.length
         · as_aux_lemma=>
           have hji:(j:Int)<(LT.length:Int):=by omega
           obtain⟨g,o,c,hve,hgl,hgc⟩:=(HV9.out.below hb).at hjl;cases hve;obtain⟨hvv,hsv⟩:=HTM.out _ (List.mem_of_getElem? (Yaa hjl));obtain⟨x,hx1⟩:∃x:Nat,ith LT j=x:=⟨(ith LT j).toNat,by have:=hvv.1;omega⟩;rw[hx1]at hgc hvv hsv;have hzv:=HGC.out.rg _ hvv;obtain⟨z,hz1⟩:∃z:Nat,m (x:Int)=z:=⟨(m (x:Int)).toNat,by have:=hzv.1;omega⟩;have hxn:x<F.vars.length:=by have:=hvv.2;omega
           have hzn:z<F.vars.length:=by rw[hz1]at hzv;have:=hzv.2;omega
           rw[hz1]at hsv;have hr9:=H4.out.below hb9;have hBq:Below w6.heap.size w6 wr:=HBr.out.trans (hb9.mono HBr.out.size);have hro:=Yl HRT.out hBq;obtain⟨gA,rfl⟩:∃gA,Ar=some ⟨gA,0,none⟩:=by
            rcases hro.2 with⟨-,h0⟩|⟨g',cap,cur,hv,-⟩
            · exact ZO
            · simp only[Value.slice.injEq]at hv
              exact⟨g',hv.1⟩
           have t0:=hro.cellAt x ZO;have tl:=(hro.lt gA rfl).2;replace t0:wr.cell? ⟨gA,x,none⟩=some (.int .i64 (z:Int)):=by
            rw[t0,List.getElem?_map,Ydy,List.getElem?_map,YcF,List.getElem?_map];simp[hxn,hz1]
           obtain⟨i1,i2,i3⟩:=hsv;have b3:=hr9.box.cell 3;have b4:=hr9.box.cell 4;have b5:=hr9.box.cell 5;have bl:=hr9.box.lt;have yi:=Yn hr9.ints hxn;have zi:=Yn hr9.ints hzn;have yb:=Y9 hr9.bools hxn;have zb:=Y9 hr9.bools hzn;have ya:=Yn hr9.arrs hxn;have za:=Yn hr9.arrs hzn;have il:=(hr9.ints.lt gi rfl).2;have bbl:=(hr9.bools.lt gb rfl).2;have al:=(hr9.arrs.lt ga rfl).2;replace i1:ith s.ints x=ith s.ints z:=i1;replace i2:s.bools.getD x false=s.bools.getD z false:=i2;replace i3:ith s.arrs x=ith s.arrs z:=i3;rw[i1]at yi;rw[i2]at yb;rw[i3]at ya;have hxI:(x:Int)<(F.vars.length:Int):=by omega
           have hzI:(z:Int)<(F.vars.length:Int):=by omega
           have hz0:decide ((z:Int)<0)=false:=decide_eq_false ZO;have hzg:decide ((F.vars.length:Int)≤(z:Int))=false:=decide_eq_false ZO;have hzh:decide (F.vars.length≤z)=false:=decide_eq_false ZO;have HB:=Lh hb;generalize ith s.ints z=vi at *;generalize s.bools.getD z false=vb at *;generalize ith s.arrs z=va at *;clear i1 i2 i3 hro hr9 hBq hb hb9 hvv hzv hz1 hx1 hxn hzn;replace b3:wr.cell? ⟨nb,3,none⟩=some (.slice (some ⟨gi,0,none⟩) F.vars.length F.vars.length):=b3;replace b4:wr.cell? ⟨nb,4,none⟩=some (.slice (some ⟨gb,0,none⟩) F.vars.length F.vars.length):=b4;replace b5:wr.cell? ⟨nb,5,none⟩=some (.slice (some ⟨ga,0,none⟩) F.vars.length F.vars.length):=b5
           go_upto_region 14 with fail
           obtain⟨S0,hS0⟩:∃S0:World→Prop,S0=fun w'=>w'.cell? ⟨nb,3,none⟩=some (.slice (some ⟨gi,0,none⟩) F.vars.length F.vars.length)∧w'.cell? ⟨nb,4,none⟩=some (.slice (some ⟨gb,0,none⟩) F.vars.length F.vars.length)∧w'.cell? ⟨nb,5,none⟩=some (.slice (some ⟨ga,0,none⟩) F.vars.length F.vars.length)∧w'.cell? ⟨gi,x,none⟩=some (.int .i64 vi)∧w'.cell? ⟨gi,z,none⟩=some (.int .i64 vi)∧w'.cell? ⟨gb,x,none⟩=some (.bool vb)∧w'.cell? ⟨gb,z,none⟩=some (.bool vb)∧w'.cell? ⟨ga,x,none⟩=some (.int .i64 va)∧w'.cell? ⟨ga,z,none⟩=some (.int .i64 va)∧nb<w'.heap.size∧gi<w'.heap.size∧gb<w'.heap.size∧ga<w'.heap.size:=⟨_,rfl⟩
           have HS0:=Lh hS0;clear hS0;have k0:=fun xw=>(WS.at HS0 xw).1
           have k1:=fun xw=>(WS.at HS0 xw).2.1
           have k2:=fun xw=>(WS.at HS0 xw).2.2.1
           have k3:=fun xw=>(WS.at HS0 xw).2.2.2.1
           have k4:=fun xw=>(WS.at HS0 xw).2.2.2.2.1
           have k5:=fun xw=>(WS.at HS0 xw).2.2.2.2.2.1
           have k6:=fun xw=>(WS.at HS0 xw).2.2.2.2.2.2.1
           have k7:=fun xw=>(WS.at HS0 xw).2.2.2.2.2.2.2.1
           have k8:=fun xw=>(WS.at HS0 xw).2.2.2.2.2.2.2.2.1
           have k9:=fun xw=>(WS.at HS0 xw).2.2.2.2.2.2.2.2.2.1
           have k10:=fun xw=>(WS.at HS0 xw).2.2.2.2.2.2.2.2.2.2.1
           have k11:=fun xw=>(WS.at HS0 xw).2.2.2.2.2.2.2.2.2.2.2.1
           have k12:=fun xw=>(WS.at HS0 xw).2.2.2.2.2.2.2.2.2.2.2.2
           refine YB (S:=S0) [0,1,2,3,4,5,6,7,8,9,10,11,12,13,14,15,16,17,18,19,20,21,22,23,24,25,26,27,28,29,30,31,32,33,34,35,36,37,38,39,40,41,42,43,44,45,46,47,48,49,50,51,52,53,54,55,56,57,58] ZK ZK (fun _ _ _ _ _ h=>h) ?hS (fun hSc=>?_)
           case hS=>
            rw[HS0.out];exact⟨ZI,ZI,ZI,ZI,ZI,ZI,ZI,ZI,ZI,ZJ,ZJ,ZJ,ZJ⟩
           have hne0:Nonempty (WS S0):=⟨⟨_,hSc⟩⟩;simp only[List.map_cons,List.map_nil,Ld,Le]
           repeat
            first
            |((with_reducible refine YC ?_ ?_);exact rfl;go_big_quiet_step (fail);(try with_reducible refine wpQuiet_nil ?_);(try dsimp only))
           refine YD ?_;rw[HS0.out]at hSc;obtain⟨p0,p1,p2,p3,p4,p5,p6,p7,p8,p9,p10,p11,p12⟩:=hSc;clear hne0 HS0 k0 k1 k2 k3 k4 k5 k6 k7 k8 k9 k10 k11 k12;go_wp2_with fail;go_roundw
           case rel=>exact⟨j+1,ZN,ZO,HB.out.drew⟩
           case measure=>simp[intOf];omega
         · as_aux_lemma=>
           obtain rfl:j=LT.length:=by omega
           have hBr2:=HBr.out.trans (hb9.mono HBr.out.size);have hWa:=HB6.out.trans (hBr2.mono HB6.out.size);have hra:=H4.out.below hb9
           have hst:=HST.out wr hWa _ nb gi gb ga vr' vt' vrs' s hIV.out.1 hra (fun k hk=>by
            have:=hBr2.size;omega) (fun k hk=>by
            have:=HB6.out.size
            omega)
           have HB3:=Lh hb9;have HI2:=Lh (show RInv F (Yx F s)∧RtI F m (Yx F s)from⟨hIV.out.1.step HT.out HNN.out,hIV.out.2.step HSG.out HGC.out HSG.out.cpH hIV.out.1⟩);clear hb hBr2 hWa hb9 HTM HV9 hl9 hra;obtain⟨wp,rfl⟩:∃wp:World,wp=wr:=⟨_,rfl⟩;go_wp2_with fail;refine hst.mono ?_;rintro e wb ⟨rfl,vrb,vtb,vrsb,hrb,hkb⟩;have HKB:=Lh ((HK4.out.trans (Kp.below HB3.out (fun k hk _=>by have:=HBr.out.size;omega))).trans hkb);have HRB:=Lh hrb;clear hrb hkb hst;go_wp2;go_roundw
           case rel=>exact⟨i+1,Yx F s,vrb,vtb,vrsb,ZN,ZO,HRB.out,HI2.out,HKB.out⟩
           case measure=>simp[intOf];omega
      · rw[hen]at z22
        have HWr:=Lh hWr;clear hen h4 k4 hBr hWr hIV;go_wp2;go_ret;exact⟨rfl,HWr.out⟩
    · as_aux_lemma=>
      obtain rfl:i=kk:=by omega
      clear h4 k4;go_wp2;go_ret;exact⟨rfl,hWr⟩
 · as_aux_lemma=>
   have hr1:(r !=0)=true:=by rw[bne_iff_ne];exact hr0
   clear hr hr0;go_wp2_with fail;refine(hlv _ hB4).mono ?_;rintro e w5 ⟨rfl,hb5⟩;go_wp2;go_ret;exact⟨rfl,hB4.trans (hb5.mono hB4.size)⟩
end Go.Proofs.YthhjlbflpjhahaaGreatDoor
namespace Go.Proofs.YthhjlbflpjhahaaGreatDoor
open Go.ChangeShapes Go.WideShapes Go.ChangeAt Go.RowKit
set_option maxRecDepth 100000
theorem Yp5(os:Os)(started:os.Started)(H:Type)(enc:TypeId×Value→H) :
 ReturnsInHanded {} Tryz.checked os 9 .any (fun w args=>(Rows.copiesRootsSpec.pre enc Tryz.prog Tryz.f9 [] false w args∧laidMetH Tryz.prog YbY w)∧sizedMet enc Tryz.prog Tryz.f9 (OpenSpec.ofChange Rows.copiesRootsSpec) false w args)
  (Rows.copiesRootsSpec.post enc Tryz.prog Tryz.f9 false true false false):=by
 refine returnsInHanded_of_change_and (C:=Tryz.checked) (X:=fun w _=>laidMetH Tryz.prog YbY w) (fun _ _ _ hh h=>h.of_heap hh) own started ZK Tryz.func9
  (ChangeSpec.witness_shaped (enc:=enc) (C:=Tryz.checked) (os:=os) (X:=fun w _=>laidMetH Tryz.prog YbY w) false (World.laidAll Tryz.prog os YbY) #[.agg #[.slice none 0 0,.slice none 0 0,.slice none 0 0],.agg #[.slice none 0 0,.slice none 0 0],.int .u16 0] 8 (World.laidAll_os _ _ _)
    (World.shaped_of_ZipB ZK ZK) ZK ZK ZK
    (by rw[MakeChecks.laidMetH_plain _ _ _ ZK];exact Yji os _)) ?_
 intro W base args ds gs before hval0 hW _ hsz hL _;have hval:∀(j:Nat) t v,(Tryz.f9).params[j]?=some t→args[j]?=some v→Value.okWide Tryz.prog W .any base t v:=hval0;have hW':=hW;obtain⟨p,q,hA0,hV,rfl,_,_⟩:=hW;have hA:DataW.TrodAll enc Tryz.prog W 0 (fun _=>true) true (Tryz.f9).params.toList args.toList ds p:=hA0;rw[Tryz.params9]at hA hval hsz;obtain⟨v0,v1,v2,d0,d1,d2,p0,p1,p2,rfl,rfl,rfl,h0,h1,h2⟩:=trodAll_three hA;obtain⟨rfl,rfl⟩:=trodVars_none hV;simp only[List.append_nil]at hW';rw[MakeChecks.laidMetH_plain _ _ _ ZK]at hL;have hU:=Yjh hL;have hwt:Wt 26 d0:=by
  intro x hx;have hm:x∈DataW.weightsEach Tryz.prog ([26,38,39]++DataSpec.varTypes Tryz.prog Rows.copiesRootsSpec.plain) ([d0,d1,d2]++[]):=by simp[DataW.weightsEach,hx]
  have:=List.all_eq_true.1 hsz x hm;simpa using this
 have hwi:Wt 38 d1:=by
  intro x hx;have hm:x∈DataW.weightsEach Tryz.prog ([26,38,39]++DataSpec.varTypes Tryz.prog Rows.copiesRootsSpec.plain) ([d0,d1,d2]++[]):=by simp[DataW.weightsEach,hx]
  have:=List.all_eq_true.1 hsz x hm;simpa using this
 obtain⟨F,hF,hN⟩:=YjI (hval 0 _ v0 rfl rfl) h0 hwt;obtain⟨I,hI,hIn⟩:=YjJ (hval 1 _ v1 rfl rfl) h1 hwi;obtain⟨n,rfl,hn⟩:=YpM (hval 2 _ v2 rfl rfl) h2;have hlt:∀x∈p0++p1++p2,x.block<W.heap.size:=fun x hx=>by simpa using hW'.lt x hx
 refine(Yp4 hU hF hN hI hIn hn).mono fun e W' ⟨he,hb⟩=>?_
 subst he;exact⟨_,rfl,_,_,_,[],_,[],hW',trodAll_mk1 (shut_bool Tryz.underlying4 _),trodAll_mk3 (Below.trod Ydx ZK (of_decide_eq_true ZK) h0 hb (fun x hx=>hlt x (List.mem_append_left _ (List.mem_append_left _ hx)))) (Below.trod Ydx ZK (of_decide_eq_true ZK) h1 hb (fun x hx=>hlt x (List.mem_append_left _ (List.mem_append_right _ hx)))) (Below.trod Ydx ZK (of_decide_eq_true ZK) h2 hb (fun x hx=>hlt x (List.mem_append_right _ hx))),rfl,hb.frame _,fun h=>by cases h⟩
theorem Yp6:Rows.copiesRootsRow.holds Tryz.pinned (OpenSpec.ofChange Rows.copiesRootsSpec):=
 OpenClaim.holds_of_wide 9 Tryz.f9 rfl rfl rfl rfl rfl rfl rfl ⟨rfl,rfl,rfl,rfl,rfl⟩ rfl rfl rfl rfl rfl ZK Tryz.func9 ZK
  (of_decide_eq_true ZK) (by unfold Func.isWrapper;first|(rw[if_pos (by decide +kernel)];kernel_rfl)|(rw[if_neg (by decide +kernel)];exact⟨rfl,rfl⟩))
  (fun os started H enc _=>Yp5 os started H enc)
theorem croots_card:Rows.CopiesRootsCardSaid:=
 Claim7.holds_tied_plain_at .later [] [.data,.pinned] true Rows.copiesRootsCard.stood.harness false Yp6 (fun _ h=>by cases h) ZK (fun _ h=>by cases h) copiesRoots_row_tie rfl ⟨rfl,rfl⟩ ZK rfl
  (fun f fn hf hfn=>by
    obtain rfl:f=9:=Option.some.inj ((show(Tryz.prog).funcNamed Rows.copiesRootsRow.func=some 9 from ZK).symm.trans hf) |>.symm;obtain rfl:fn=Tryz.f9:=(Option.some.inj (Tryz.func9.symm.trans hfn)).symm
    exact⟨ZK,fun j t ht=>by
     rw[Tryz.params9]at ht;have hm:t∈[26,38,39]:=by simpa using Array.mem_of_getElem? ht
     have hall:([26,38,39].all fun u=>!(Tryz.prog).wantsStandIn u)=true:=by kernel_rfl
     exact(show(Tryz.prog).wantsStandIn t=false by simpa using List.all_eq_true.1 hall t hm)⟩)
  ZK
#print axioms croots_card
end Go.Proofs.YthhjlbflpjhahaaGreatDoor
