/- The walk of the law TidyRuns: it returns true, whatever the program, the input, and the number of steps. -/
import Derived.Test.YthhjlbflpjhahaaGreatDoorTidyUZ
import Derived.Test.YthhjlbflpjhahaaGreatDoorTdIZ
import Derived.Test.YthhjlbflpjhahaaGreatDoorTidyYZ
import Derived.Test.YthhjlbflpjhahaaGreatDoorKeepQZ
import Derived.Test.YthhjlbflpjhahaaGreatDoorUniQZ
import Derived.Test.YthhjlbflpjhahaaGreatDoorGraphZ
import Derived.Test.YthhjlbflpjhahaaGreatDoorLawJZ
namespace Go.Proofs.YthhjlbflpjhahaaGreatDoor
open Go.RowKit
set_option maxRecDepth 100000
theorem inV_keep{w w':World}{B B':Nat}{v:Value}{I:PIn}(h:InV w B v I)(hk:Kept B w w')(hB:B≤B'):InV w' B' v I:=by
 obtain⟨v0,v1,rfl,h0,h1⟩:=h;refine⟨v0,v1,rfl,h0.keep hB fun b o x hb hx=>⟨(hk _ _ hb).trans hx.1,(hk _ _ hb).trans hx.2.1,(hk _ _ hb).trans hx.2.2⟩,h1.keep hB fun b o x hb hx=>?_⟩;obtain⟨v,e1,e2⟩:=hx;exact⟨v,(hk _ _ hb).trans e1,e2.keep hk hB⟩
theorem runR_inv{F:PFunc}(hT:typedP F=true)(hN:NumsR F):∀(k:Nat) (s:RSt),RInv F s→RInv F (runR F k s)
 |0,_,h=>h
 |k+1,s,h=>by
  rw[runR];split
  · exact h
  · exact runR_inv hT hN k _ (h.step hT hN)
section
variable {F G:PFunc} {I:PIn}
theorem begin_of(h1:G.vars=F.vars)(h2:G.params=F.params):beginR G I=beginR F I:=by
 obtain⟨v,p,b⟩:=G;obtain⟨v',p',b'⟩:=F;simp only at h1 h2;subst h1 h2;rfl
theorem right_of(h1:G.vars=F.vars)(h2:G.params=F.params)(h:RightF F I):RightF G I:=by
 obtain⟨a,b,c,d⟩:=h;refine⟨by rw[h2];exact a,fun i hi ht=>b i hi ?_,c,d⟩;unfold PFunc.var at *;rw[← h1];exact ht
theorem nums_t(hN:NumsR F)(h:IsT (prF F) G):NumsR G:=by
 obtain⟨v,-,-,-,h3,h4⟩:=h;intro b hb x hx;obtain⟨k,hk⟩:=List.getElem?_of_mem hb;have hkl:=(List.getElem?_eq_some_iff.1 hk).1;obtain⟨L,T,hc,h6⟩:=h4 k _ (List.getElem?_eq_getElem (by omega:k<(hds (prF F)).length));rw[hk]at h6;obtain rfl:=Option.some.inj h6;obtain⟨j,hj⟩:=hc.mem x hx;exact nums_pr hN _ (blk_mem hj) x hj
end
theorem wrap_one(n:Nat)(h:n≤64):wrap64 (1+(n:Int))=((1+n:Nat):Int):=by unfold wrap64;omega
theorem mod301(n:Nat):Int.tmod (n:Int) 301=((n%301:Nat):Int):=by
 rw[Int.tmod_eq_emod_of_nonneg (Int.natCast_nonneg n)];omega
set_option maxHeartbeats 16000000 in
theorem tidyRuns_law{W:World}{fv iv:Value}{F:PFunc}{I:PIn}{nf:Nat}(hU:Uni W)(hF:FnV W W.heap.size fv F)(hN:NumsR F)(hI:InV W W.heap.size iv I)(hIn:InNum I)(_hn8:nf<65536) :
 Calls Tryz.prog 5 #[fv,iv,.int .u16 nf] W fun e w'=>e=.returned (.bool true)∧Below W.heap.size W w':=by
 have hlv:=fun(w:World) (h:Below W.heap.size W w)=>livesT_calls hU h
 have hty:=fun(w:World) (h:Below W.heap.size W w)=>lawJ_val hU hF h
 have hsm:=fun(w:World) (h:Below W.heap.size W w)=>smallI_calls hI h
 obtain⟨w,rfl⟩:∃w:World,w=W:=⟨_,rfl⟩;obtain⟨A0,c0,A1,c1,A2,c2,rfl,l0,l1,l2,-,-,-,r0,r1,r2⟩:=id hF.open_;obtain⟨B0,d0,B1,d1,rfl,m0,m1,k0,k1,q0,q1⟩:=id hI.open_;unfold Len at *;clear r0 r1 r2 q0 q1;have hx0:Below w.heap.size w ((w.alloc (.cells #[.slice A0 F.vars.length c0,.slice A1 F.params.length c1,.slice A2 F.blocks.length c2] 26)).alloc (.cells #[.slice B0 I.args.length d0,.slice B1 I.rows.length d1] 38)):=BL;cases hx:(lawT F&&joinedB F)
 · rw[hx]at hty
   clear hx hF hI hN hIn hsm;go_enter Tryz.func5,Tryz.ntmps5;go_wp2_with fail;refine(hlv _ hx0).mono ?_;rintro e w1 ⟨rfl,hb1⟩;have hX1:InBox w1 w.heap.size _ _ _ _ _:=InBox.of (by simpa using hb1);have hB1:Below w.heap.size w w1:=hx0.trans (hb1.mono ZX);obtain⟨e0,e1,g0,g1,g2,g3,g4⟩:=hX1.all;go_wp2_with fail;refine(hty _ hB1).mono ?_;rintro e w2 ⟨rfl,hb2⟩;go_wp2_with fail;refine(hlv _ (hB1.trans (hb2.mono hB1.size))).mono ?_;rintro e w3 ⟨rfl,hb3⟩;go_wp2;go_ret;exact⟨rfl,hB1.trans ((hb2.trans (hb3.mono hb2.size)).mono hB1.size)⟩
 rw[hx]at hty;have hx1:lawT F=true∧joinedB F=true:=by simpa using hx
 have hx2:fewB F=true∧typedP F=true:=by
  have:=hx1.1;unfold lawT at this;simpa using this
 have hS:=few_small hx2.1;have hT:=hx2.2;obtain⟨n1,n2⟩:=shaped_count (typed_shaped hT);have hpv:F.params.length≤F.vars.length:=by
  have:=typed_shaped hT;unfold shapedP at this;simp only[Bool.and_eq_true]at this;exact names_params this.1.1
 have hv512:F.vars.length≤512:=by
  have:=typed_shaped hT;unfold shapedP at this;simp only[Bool.and_eq_true]at this;exact names_vars this.1.1
 have hrt:=fun(w':World) (h:Below w.heap.size w w')=>rightI_calls hF hI h hpv
 have hB:=few_bnd hx2.1;have HSW:=Lh (fun(w':World) (h:Below w.heap.size w w')=>straight_calls hU hF h hS hB hT hx1.2);have HFEW:=Lh hx2.1;have HJN:=Lh hx1.2;have HFV:=Lh hF;have HRF:=Lh (fun(w':World) (h:Below w.heap.size w w') (fuel:Nat) (hR:RightF F I) (hf:fuel≤1073741824)=>run_calls hF hI h hT hS hN hIn hR hpv hv512 hf);have HU:=Lh hU;have HI:=Lh hI;have HBD:=Lh hB;have HPV:=Lh hpv;have HNN:=Lh hN;have HT:=Lh hT;have HIn:=Lh hIn;clear hx hx1 hx2 hF hI hN hIn hS hT hpv hB;go_enter Tryz.func5,Tryz.ntmps5;go_wp2_with fail;refine(hlv _ hx0).mono ?_;rintro e w1 ⟨rfl,hb1⟩;have hX1:InBox w1 w.heap.size _ _ _ _ _:=InBox.of (by simpa using hb1);have hB1:Below w.heap.size w w1:=hx0.trans (hb1.mono ZX);obtain⟨e0,e1,g0,g1,g2,g3,g4⟩:=hX1.all;go_wp2_with fail;refine(hty _ hB1).mono ?_;rintro e w2 ⟨rfl,hb2⟩;have hX2:=hX1.below hb2 hX1.lt;have hB2:=hB1.trans (hb2.mono hB1.size);clear e0 e1 g0 g1 g2 g3 g4;obtain⟨e0,e1,g0,g1,g2,g3,g4⟩:=hX2.all;go_wp2_with fail;refine(hsm _ hB2).mono ?_;rintro e w3 ⟨⟨b,rfl⟩,hb3⟩;have hX3:=hX2.below hb3 hX2.lt;have hB3:=hB2.trans (hb3.mono hB2.size);clear e0 e1 g0 g1 g2 g3 g4 hb1 hb2 hb3 hX1 hX2 hB1 hB2 hx0;cases b
 · as_aux_lemma=>
   go_wp2_with fail;refine(hlv _ hB3).mono ?_;rintro e w4 ⟨rfl,hb4⟩;go_wp2;go_ret;exact⟨rfl,hB3.trans (hb4.mono hB3.size)⟩
 obtain⟨e0,e1,g0,g1,g2,g3,g4⟩:=hX3.all;go_wp2_with fail;refine(hrt _ hB3).mono ?_;rintro e w4 ⟨⟨r,rfl,hr⟩,hb4⟩;have hX4:=hX3.below hb4 hX3.lt;have hB4:=hB3.trans (hb4.mono hB3.size);clear e0 e1 g0 g1 g2 g3 g4 hb4 hX3 hB3
 by_cases hr0:r=0
 · as_aux_lemma=>
   have HR:=Lh (hr hr0);subst hr0;clear hr hlv hty hsm hrt;obtain⟨e0,e1,g0,g1,g2,g3,g4⟩:=hX4.all;go_wp2_with fail;refine(HSW.out _ hB4).mono ?_;rintro e w5 ⟨⟨gv,G,rfl,hG,hGT⟩,hb5⟩;obtain⟨C0,k3,C1,k4,C2,k5,rfl,-⟩:=id hG.open_;obtain⟨hPT,hPJ⟩:=joined_pr HT.out HJN.out;have hPA:=pr_all HT.out hPT;have hgv:G.vars=F.vars:=by obtain⟨v,-,h1,-⟩:=hGT;exact h1
   have hgp:G.params=F.params:=by obtain⟨v,-,-,h1,-⟩:=hGT;exact h1
   have v0:Hid (G.vars.length=F.vars.length):=congrArg List.length hgv;have v1:Hid (G.params.length=F.params.length):=congrArg List.length hgp;have hX5:=hX4.below hb5 hX4.lt;have hB5:=hB4.trans (hb5.mono hB4.size);have hT2:=(straight_none hPT hPJ hPA hGT).1.t;have hS2:=(isT_bnd (bnd_pr HBD.out) hPT (typed_rk hPT hPA) hGT).small;have hNG:=nums_t HNN.out hGT;have hI5:InV w5 w5.heap.size (.agg #[.slice B0 I.args.length d0,.slice B1 I.rows.length d1]) I:=inV_keep HI.out (Kept.of_below hB5) hB5.size;have hR2:=right_of hgv hgp HR.out;have hbg:=begin_of (I:=I) hgv hgp;have hpv2:G.params.length≤G.vars.length:=by rw[v0.out,v1.out];exact HPV.out
   have hv5122:G.vars.length≤512:=by rw[v0.out];exact hv512
   have hinv:=beginR_inv HT.out HR.out HIn.out;have hinv2:=beginR_inv hT2 hR2 HIn.out;rw[hbg]at hinv2;have HGR:Hid (RunC w5 (.agg #[.slice C0 F.vars.length k3,.slice C1 F.params.length k4,.slice C2 G.blocks.length k5]) (.agg #[.slice B0 I.args.length d0,.slice B1 I.rows.length d1]) G (beginR F I) 1073741824):=fun w' h k hk=>by
    have:=run_calls (fuel:=k) hG hI5 h hT2 hS2 hNG HIn.out hR2 hpv2 hv5122 hk;rw[v0.out,v1.out,hbg]at this;exact this
   have HFR:Hid (RunC w (.agg #[.slice A0 F.vars.length c0,.slice A1 F.params.length c1,.slice A2 F.blocks.length c2]) (.agg #[.slice B0 I.args.length d0,.slice B1 I.rows.length d1]) F (beginR F I) 1073741824):=fun w' h k hk=>HRF.out w' h k HR.out hk
   have HTY:=Lh (fun(w':World) (h:Below w5.heap.size w5 w')=>law8Typed_calls (HU.out.below hB5) hG h hS2);rw[hT2,v0.out,v1.out]at HTY;obtain⟨kk,hkk⟩:∃kk:Nat,kk=nf%301:=⟨_,rfl⟩;have hmod3:=mod301 nf;rw[← hkk]at hmod3;have hk301:kk<301:=by rw[hkk];exact Nat.mod_lt _ ZD
   have HKL:=Lh (show kk≤1073741824 from Nat.le_of_lt (Nat.lt_trans hk301 ZD));have hbk:(1+F.blocks.length)*(kk+1)≤(1+64)*301:=Nat.mul_le_mul (Nat.add_le_add_left n2 1) hk301;have hfw:=fun(M:Nat) (hM:kk≤M)=>tidy_fwd HT.out HJN.out HNN.out HR.out HIn.out hGT (K:=kk) (M:=M) (Nat.lt_trans hk301 ZD) hM
   have hbw:=tidy_bwd HT.out HJN.out HNN.out HR.out HIn.out hGT (n:=kk) (M:=(1+F.blocks.length)*(kk+1)) rfl (Nat.lt_of_le_of_lt hbk ZD);obtain⟨bk,hbk2⟩:∃bk:Int,bk=((1+F.blocks.length:Nat):Int):=⟨_,rfl⟩;have hw1:wrap64 (1+(F.blocks.length:Int))=bk:=by rw[hbk2];exact wrap_one _ n2
   have hKE:Hid (∀w':World,Below w5.heap.size w5 w'→Calls Tryz.prog 26 #[.agg #[.slice A0 F.vars.length c0,.slice A1 F.params.length c1,.slice A2 F.blocks.length c2],.agg #[.slice C0 F.vars.length k3,.slice C1 F.params.length k4,.slice C2 G.blocks.length k5],.agg #[.slice B0 I.args.length d0,.slice B1 I.rows.length d1],.int .i64 (kk:Int),.int .i64 1,.int .i64 bk,.bool true] w' fun e w''=>e=.returned (.bool true)∧Below w'.heap.size w' w''):=fun w' h=>by
    rw[hbk2];exact keeps_calls (n:=kk) (forth:=1) (back:=1+F.blocks.length) (RunC.later HFR.out hB5) HGR.out h (Nr _) HKL.out (by rw[Nat.one_mul];exact Nat.le_trans hk301 ZD) (Nat.le_trans hbk ZD) (Nat.le_trans hk301 ZD) (fun k=>(runR_inv HT.out HNN.out k _ hinv).lt) (fun k=>(runR_inv hT2 hNG k _ hinv2).lt) (fun he=>(hfw (1*(kk+1)) (by rw[Nat.one_mul];exact Nat.le_succ _) he).1) hbw
   obtain⟨S1,hS1⟩:∃S1,S1=runR F kk (beginR F I):=⟨_,rfl⟩;obtain⟨S2,hS2'⟩:∃S2,S2=runR G kk (beginR F I):=⟨_,rfl⟩;have HFW:=Lh (hfw kk (Nr _));unfold Hid at HFW;rw[← hS1,← hS2']at HFW;replace HFW:=Lh HFW;have HL1:=Lh (show S1.trace.length≤4096 by rw[hS1];exact(runR_inv HT.out HNN.out kk _ hinv).lt);have HS1:=Lh hS1;have HS2:=Lh hS2';obtain⟨w6,hw6⟩:∃w6,w6=w5.alloc (.cells #[.slice C0 F.vars.length k3,.slice C1 F.params.length k4,.slice C2 G.blocks.length k5] 26):=⟨_,rfl⟩;have HW6:=Lh hw6;have hg6:BoxAt w6 w5.heap.size #[.slice C0 F.vars.length k3,.slice C1 F.params.length k4,.slice C2 G.blocks.length k5] 26:=by rw[hw6];exact BoxAt.new _ _ _
   have hb6:Below w5.heap.size w5 w6:=by rw[hw6];exact bel_alloc _ _
   have HB5:=Lh hB5;have HX5:=Lh hX5;have HG6:=Lh hg6;have HB6:=Lh hb6;clear e0 e1 g0 g1 g2 g3 g4 hb5 hX4 hB4 HSW hG hT2 hS2 hI5 hR2 hinv hinv2 hkk hfw hbw hS1 hS2' hw6 hg6 hb6 hbk hbk2 hPT hPJ hPA hgv hgp hNG hbg hGT hpv2 hv5122;have HW1:=Lh (show bk=1+(F.blocks.length:Int)from by rw[← hw1,wrap_one _ n2];omega);clear hw1;obtain⟨e0,e1,g0,g1,g2,g3,g4⟩:=hX5.all;clear hX5 hB5;rw[v0.out,v1.out];clear v0 v1
   go_upto_region 4 with fail
   rw[← HW6.out];have hX6:=HX5.out.below HB6.out HX5.out.lt;clear e0 e1 g0 g1 g2 g3 g4 HX5;obtain⟨e0,e1,g0,g1,g2,g3,g4⟩:=hX6.all;have y0:=HG6.out.cell 0;have y1:=HG6.out.cell 1;have y2:=HG6.out.cell 2;have yl:=HG6.out.lt;simp at y0 y1 y2;go_wp2_with fail;refine(HTY.out _ HB6.out).mono ?_;rintro e w7 ⟨rfl,hb7⟩;have HX7:=Lh (hX6.below hb7 hX6.lt);have HG7:=Lh (HG6.out.below hb7 HG6.out.lt);have HB57:=Lh (HB6.out.trans (hb7.mono HB6.out.size));have HB7:=Lh (HB5.out.trans (HB57.out.mono HB5.out.size));clear e0 e1 g0 g1 g2 g3 g4 hX6 y0 y1 y2 yl hb7 HTY HW6 HG6 HB6;obtain⟨e0,e1,g0,g1,g2,g3,g4⟩:=HX7.out.all;have y0:=HG7.out.cell 0;have y1:=HG7.out.cell 1;have y2:=HG7.out.cell 2;have yl:=HG7.out.lt;simp at y0 y1 y2;have hu:=Tryz.underlying47
   go_upto_region 7 with fail
   refine wp_region_monoS [55,56,57,58,59,60,61,62,10,11] 8 9 ZK (fun i w' v'=>(([fun _ v'=>v'=.agg #[.slice A0 F.vars.length c0,.slice A1 F.params.length c1,.slice A2 F.blocks.length c2],fun _ v'=>v'=.agg #[.slice B0 I.args.length d0,.slice B1 I.rows.length d1],fun _ v'=>v'=.int .i64 (kk:Int),fun w' v'=>∃A c,v'=outV S1 (.slice A S1.trace.length c)∧w'.ownsRow 0 2 1 (.slice A S1.trace.length c) S1.trace.length (S1.trace.map (Value.int .i64)),fun _ v'=>v'=.agg #[.slice C0 F.vars.length k3,.slice C1 F.params.length k4,.slice C2 G.blocks.length k5],fun _ v'=>v'=.agg #[.slice B0 I.args.length d0,.slice B1 I.rows.length d1],fun _ v'=>v'=.int .i64 (kk:Int),fun w' v'=>∃A c,v'=outV S2 (.slice A S2.trace.length c)∧w'.ownsRow 0 2 1 (.slice A S2.trace.length c) S2.trace.length (S2.trace.map (Value.int .i64)),fun w' v'=>∃g,v'=.pointer (some ⟨g,0,none⟩)∧w7.heap.size≤g∧BoxAt w' g zeroO 47,fun w' v'=>∃g,v'=.pointer (some ⟨g,0,none⟩)∧w7.heap.size≤g∧BoxAt w' g zeroO 47]:List (World→Value→Prop)).getD i (fun _ _=>True)) w' v') ZK ZK ZK ZD ZK ZD ?mono ?step ?last
   case mono=>
    intro i w1 w2 v hi hb h
    match i,hi,h with
    |0,_,h=>exact h
    |1,_,h=>exact h
    |2,_,h=>exact h
    |3,_,h=>exact(by obtain⟨A,c,e1,e2⟩:=h;exact⟨A,c,e1,own_below e2 hb⟩)
    |4,_,h=>exact h
    |5,_,h=>exact h
    |6,_,h=>exact h
    |7,_,h=>exact(by obtain⟨A,c,e1,e2⟩:=h;exact⟨A,c,e1,own_below e2 hb⟩)
    |8,_,h=>exact(by obtain⟨g,e1,e2,e3⟩:=h;exact⟨g,e1,e2,e3.below hb e3.lt⟩)
    |9,_,h=>exact(by obtain⟨g,e1,e2,e3⟩:=h;exact⟨g,e1,e2,e3.below hb e3.lt⟩)
    |k+10,hi,_=>exact absurd hi (Nat.not_lt_of_le (Nat.le_add_left _ _))
   case step=>
    intro i o vs w1 ho hi hl hb hp K hK;have hl0:vs.length=10:=hl;clear hl;obtain⟨v0,r0,rfl,hl1⟩:=len_cons (n:=9) hl0;obtain⟨v1,r1,rfl,hl2⟩:=len_cons (n:=8) hl1;obtain⟨v2,r2,rfl,hl3⟩:=len_cons (n:=7) hl2;obtain⟨v3,r3,rfl,hl4⟩:=len_cons (n:=6) hl3;obtain⟨v4,r4,rfl,hl5⟩:=len_cons (n:=5) hl4;obtain⟨v5,r5,rfl,hl6⟩:=len_cons (n:=4) hl5;obtain⟨v6,r6,rfl,hl7⟩:=len_cons (n:=3) hl6;obtain⟨v7,r7,rfl,hl8⟩:=len_cons (n:=2) hl7;obtain⟨v8,r8,rfl,hl9⟩:=len_cons (n:=1) hl8;obtain⟨v9,r9,rfl,hl10⟩:=len_cons (n:=0) hl9;obtain rfl:=List.eq_nil_of_length_eq_zero hl10;clear hl0 hl1 hl2 hl3 hl4 hl5 hl6 hl7 hl8 hl9 hl10
    match i,ho,hi,hp with
    |0,ho,hi,hp=>
     obtain rfl:=Option.some.inj ho;clear hi;clear hp;simp only[putsL,Act.put,La,Lz,Lc];have z9:=(hb.cell (p:=⟨w.heap.size,0,none⟩) e0).trans g0;have z8:=(hb.cell (p:=⟨w.heap.size,1,none⟩) e0).trans g1;have z7:=(hb.cell (p:=⟨w.heap.size,2,none⟩) e0).trans g2;have zl:w.heap.size<w1.heap.size:=Nt e0 hb.size;go_simp
     try go_wp2
     refine hK.out (.agg #[.slice A0 F.vars.length c0,.slice A1 F.params.length c1,.slice A2 F.blocks.length c2]) _ _ ?_ ZE rfl (fun h=>absurd h ZD);simp only[putsL,Act.put,La,Lz,Lc]
    |1,ho,hi,hp=>
     obtain rfl:=Option.some.inj ho;clear hi;clear hp;simp only[putsL,Act.put,La,Lz,Lc];have z9:=(hb.cell (p:=⟨w.heap.size+1,0,none⟩) e1).trans g3;have z8:=(hb.cell (p:=⟨w.heap.size+1,1,none⟩) e1).trans g4;have zl:w.heap.size+1<w1.heap.size:=Nt e1 hb.size;go_simp
     try go_wp2
     refine hK.out (.agg #[.slice B0 I.args.length d0,.slice B1 I.rows.length d1]) _ _ ?_ ZE rfl (fun h=>absurd h ZD);simp only[putsL,Act.put,La,Lz,Lc]
    |2,ho,hi,hp=>
     obtain rfl:=Option.some.inj ho;clear hi;clear hp;simp only[putsL,Act.put,La,Lz,Lc];go_simp
     try go_wp2
     refine hK.out (.int .i64 (kk:Int)) _ _ ?_ ZE rfl (fun h=>absurd h ZD);simp only[putsL,Act.put,La,Lz,Lc]
    |3,ho,hi,hp=>
     obtain rfl:=Option.some.inj ho;clear hi;have q0:v0=.agg #[.slice A0 F.vars.length c0,.slice A1 F.params.length c1,.slice A2 F.blocks.length c2]:=hp 0 ZK;have q1:v1=.agg #[.slice B0 I.args.length d0,.slice B1 I.rows.length d1]:=hp 1 ZK;have q2:v2=.int .i64 (kk:Int):=hp 2 ZK;obtain rfl:=q0;obtain rfl:=q1;obtain rfl:=q2;clear hp;simp only[putsL,Act.put,La,Lz,Lc];go_simp;go_wp2_with(go_at_call 24;refine(HFR.out _ (HB7.out.trans (hb.mono HB7.out.size)) kk HKL.out).mono ?_;rintro e w9 ⟨v9,rfl,ho9,hb9⟩;rw[← HS1.out]at ho9 ⊢;obtain⟨A9,c9,hv9⟩:=own_form ho9;subst hv9);refine hK.out (outV S1 (.slice A9 S1.trace.length c9)) _ _ ?_ (hb9) (⟨_,_,rfl,ho9⟩) (fun h=>absurd h ZD);simp only[putsL,Act.put,La,Lz,Lc]
    |4,ho,hi,hp=>
     obtain rfl:=Option.some.inj ho;clear hi;clear hp;simp only[putsL,Act.put,La,Lz,Lc];have z9:=(hb.cell (p:=⟨w5.heap.size,0,none⟩) yl).trans y0;have z8:=(hb.cell (p:=⟨w5.heap.size,1,none⟩) yl).trans y1;have z7:=(hb.cell (p:=⟨w5.heap.size,2,none⟩) yl).trans y2;have zl:w5.heap.size<w1.heap.size:=Nt yl hb.size;go_simp
     try go_wp2
     refine hK.out (.agg #[.slice C0 F.vars.length k3,.slice C1 F.params.length k4,.slice C2 G.blocks.length k5]) _ _ ?_ ZE rfl (fun h=>absurd h ZD);simp only[putsL,Act.put,La,Lz,Lc]
    |5,ho,hi,hp=>
     obtain rfl:=Option.some.inj ho;clear hi;clear hp;simp only[putsL,Act.put,La,Lz,Lc];have z9:=(hb.cell (p:=⟨w.heap.size+1,0,none⟩) e1).trans g3;have z8:=(hb.cell (p:=⟨w.heap.size+1,1,none⟩) e1).trans g4;have zl:w.heap.size+1<w1.heap.size:=Nt e1 hb.size;go_simp
     try go_wp2
     refine hK.out (.agg #[.slice B0 I.args.length d0,.slice B1 I.rows.length d1]) _ _ ?_ ZE rfl (fun h=>absurd h ZD);simp only[putsL,Act.put,La,Lz,Lc]
    |6,ho,hi,hp=>
     obtain rfl:=Option.some.inj ho;clear hi;clear hp;simp only[putsL,Act.put,La,Lz,Lc];go_simp
     try go_wp2
     refine hK.out (.int .i64 (kk:Int)) _ _ ?_ ZE rfl (fun h=>absurd h ZD);simp only[putsL,Act.put,La,Lz,Lc]
    |7,ho,hi,hp=>
     obtain rfl:=Option.some.inj ho;clear hi;have q3:∃A c,v3=outV S1 (.slice A S1.trace.length c)∧w1.ownsRow 0 2 1 (.slice A S1.trace.length c) S1.trace.length (S1.trace.map (Value.int .i64)):=hp 3 ZK;have q4:v4=.agg #[.slice C0 F.vars.length k3,.slice C1 F.params.length k4,.slice C2 G.blocks.length k5]:=hp 4 ZK;have q5:v5=.agg #[.slice B0 I.args.length d0,.slice B1 I.rows.length d1]:=hp 5 ZK;have q6:v6=.int .i64 (kk:Int):=hp 6 ZK;obtain⟨E1,e1',rfl,ho1⟩:=q3;obtain rfl:=q4;obtain rfl:=q5;obtain rfl:=q6;clear hp;simp only[putsL,Act.put,La,Lz,Lc];go_simp;go_wp2_with(go_at_call 24;refine(HGR.out _ (HB57.out.trans (hb.mono HB57.out.size)) kk HKL.out).mono ?_;rintro e w9 ⟨v9,rfl,ho9,hb9⟩;rw[← HS2.out]at ho9 ⊢;obtain⟨A9,c9,hv9⟩:=own_form ho9;subst hv9);refine hK.out (outV S2 (.slice A9 S2.trace.length c9)) _ _ ?_ (hb9) (⟨_,_,rfl,ho9⟩) (fun h=>absurd h ZD);simp only[putsL,Act.put,La,Lz,Lc]
    |8,ho,hi,hp=>
     obtain rfl:=Option.some.inj ho;clear hi;clear hp;simp only[putsL,Act.put,La,Lz,Lc];go_simp;refine hK.out (.pointer (some ⟨w1.heap.size,0,none⟩)) _ _ ?_ ((Br _ _).alloc (Nr _) _) (⟨_,rfl,hb.size,BoxAt.new _ _ _⟩) (fun _=>⟨rfl,ZS⟩);simp only[putsL,Act.put,La,Lz,Lc]
    |9,ho,hi,hp=>
     obtain rfl:=Option.some.inj ho;clear hi;clear hp;simp only[putsL,Act.put,La,Lz,Lc];go_simp;refine hK.out (.pointer (some ⟨w1.heap.size,0,none⟩)) _ _ ?_ ((Br _ _).alloc (Nr _) _) (⟨_,rfl,hb.size,BoxAt.new _ _ _⟩) (fun _=>⟨rfl,ZS⟩);simp only[putsL,Act.put,La,Lz,Lc]
    |k+10,_,hi,_=>exact absurd hi (Nat.not_lt_of_le (Nat.le_add_left _ _))
   case last=>
    intro vs w1 hl hap0 hb1 hp;have hl0:vs.length=10:=hl;clear hl;obtain⟨v0,r0,rfl,hl1⟩:=len_cons (n:=9) hl0;obtain⟨v1,r1,rfl,hl2⟩:=len_cons (n:=8) hl1;obtain⟨v2,r2,rfl,hl3⟩:=len_cons (n:=7) hl2;obtain⟨v3,r3,rfl,hl4⟩:=len_cons (n:=6) hl3;obtain⟨v4,r4,rfl,hl5⟩:=len_cons (n:=5) hl4;obtain⟨v5,r5,rfl,hl6⟩:=len_cons (n:=4) hl5;obtain⟨v6,r6,rfl,hl7⟩:=len_cons (n:=3) hl6;obtain⟨v7,r7,rfl,hl8⟩:=len_cons (n:=2) hl7;obtain⟨v8,r8,rfl,hl9⟩:=len_cons (n:=1) hl8;obtain⟨v9,r9,rfl,hl10⟩:=len_cons (n:=0) hl9;obtain rfl:=List.eq_nil_of_length_eq_zero hl10;clear hl0 hl1 hl2 hl3 hl4 hl5 hl6 hl7 hl8 hl9 hl10;have q0:v0=.agg #[.slice A0 F.vars.length c0,.slice A1 F.params.length c1,.slice A2 F.blocks.length c2]:=hp 0 (of_decide_eq_true ZK);have q1:v1=.agg #[.slice B0 I.args.length d0,.slice B1 I.rows.length d1]:=hp 1 (of_decide_eq_true ZK);have q2:v2=.int .i64 (kk:Int):=hp 2 (of_decide_eq_true ZK);have q3:∃A c,v3=outV S1 (.slice A S1.trace.length c)∧w1.ownsRow 0 2 1 (.slice A S1.trace.length c) S1.trace.length (S1.trace.map (Value.int .i64)):=hp 3 (of_decide_eq_true ZK);have q4:v4=.agg #[.slice C0 F.vars.length k3,.slice C1 F.params.length k4,.slice C2 G.blocks.length k5]:=hp 4 (of_decide_eq_true ZK);have q5:v5=.agg #[.slice B0 I.args.length d0,.slice B1 I.rows.length d1]:=hp 5 (of_decide_eq_true ZK);have q6:v6=.int .i64 (kk:Int):=hp 6 (of_decide_eq_true ZK);have q7:∃A c,v7=outV S2 (.slice A S2.trace.length c)∧w1.ownsRow 0 2 1 (.slice A S2.trace.length c) S2.trace.length (S2.trace.map (Value.int .i64)):=hp 7 (of_decide_eq_true ZK);have q8:∃g,v8=.pointer (some ⟨g,0,none⟩)∧w7.heap.size≤g∧BoxAt w1 g zeroO 47:=hp 8 (of_decide_eq_true ZK);have q9:∃g,v9=.pointer (some ⟨g,0,none⟩)∧w7.heap.size≤g∧BoxAt w1 g zeroO 47:=hp 9 (of_decide_eq_true ZK);have hap:v8≠v9:=hap0;clear hap0;obtain rfl:=q0;obtain rfl:=q1;obtain rfl:=q2;obtain⟨E1,e1',rfl,ho1⟩:=q3;obtain rfl:=q4;obtain rfl:=q5;obtain rfl:=q6;obtain⟨E2,e2',rfl,ho2⟩:=q7;obtain⟨g5,rfl,hg5,bx5⟩:=q8;obtain⟨g6,rfl,hg6,bx6⟩:=q9;clear hp;simp only[putsL,Act.put,La,Lz,Lc];simp only[List.length_cons,List.length_nil,List.drop_succ_cons,List.drop_zero,Nat.zero_add,Nat.reduceAdd];have hst:=two_stored hap bx5 bx6 ho1 ho2 hb1 hg5 hg6;have ha1:=box_there (n:=(outC S1 (.slice E1 S1.trace.length e1')).toArray.size) bx5 rfl;have ha2:=World.there_setCells (box_there (n:=(outC S2 (.slice E2 S2.trace.length e2')).toArray.size) bx6 rfl) g5 0 (outC S1 (.slice E1 S1.trace.length e1')).toArray.toList;refine wpList_store_mid rfl 47 (.tmp 10) (.tmp 58) rfl g5 0 (outC S1 (.slice E1 S1.trace.length e1')).toArray rfl rfl ha1 (out_info _ _) (outC_one _ _ rfl) ?_;refine wpList_store_mid rfl 47 (.tmp 11) (.tmp 62) rfl g6 0 (outC S2 (.slice E2 S2.trace.length e2')).toArray rfl rfl ha2 (out_info _ _) (outC_one _ _ rfl) ?_;obtain⟨w2,hw2⟩:∃w2,w2=(w1.setCells g5 0 (outC S1 (.slice E1 S1.trace.length e1')).toArray.toList).setCells g6 0 (outC S2 (.slice E2 S2.trace.length e2')).toArray.toList:=⟨_,rfl⟩;rw[← hw2];replace hst:OutAt w2 g5 S1 E1 e1'∧OutAt w2 g6 S2 E2 e2'∧Below w7.heap.size w7 w2:=by rw[hw2];exact hst
    clear hw2 ha1 ha2 hap bx5 bx6 ho1 ho2 hb1 hg5 hg6;obtain⟨hO5,hO6,hb2⟩:=hst;have z5:=hO5.e0;have z6:=hO5.lt;have z7:=hO6.lt;obtain⟨th,hth⟩:∃th:Bool,(S1.ending !=3)=th:=⟨_,rfl⟩;have HTH:=Lh hth;have HO5:=Lh hO5;have HO6:=Lh hO6;have HB2:=Lh hb2;have hX2:=HX7.out.below hb2 HX7.out.lt;have hG2:=HG7.out.below hb2 yl;clear hO5 hO6 hb2 e0 e1 g0 g1 g2 g3 g4 y0 y1 y2 yl
    go_upto_region 8 with fail
    go_frame
    go_cut[78] (fun s wx=>s=.bool false∧Below w2.heap.size w2 wx)
    case first=>
     cases th
     · as_aux_lemma=>
       go_wp2_with fail
       go_meet
       exact⟨rfl,Br _ _⟩
     · as_aux_lemma=>
       have hne:=HFW.out (by have:=HTH.out;simpa using this);have hgt:decide (S1.steps<S2.steps)=false:=decide_eq_false ZO;have hP5:=HO5.out;have hP6:=HO6.out;clear HTH HFW hX2 hG2;go_wp2_with(first|(refine wpList_load_midG rfl 47 _ rfl g5 0 rfl (outC S1 (.slice E1 S1.trace.length e1')) _ hP5.rng hu rfl (out_info _ _) ?_)|(refine wpList_load_midG rfl 47 _ rfl g6 0 rfl (outC S2 (.slice E2 S2.trace.length e2')) _ hP6.rng hu rfl (out_info _ _) ?_)|(go_at_call 25;refine(alikeO_calls hne.1 hP5.rd hP6.rd (Br _ _) (by have:=HL1.out;omega)).mono ?_;rintro e wy ⟨rfl,hby⟩;have hQ5:=(hP5.below hby).e4;have hQ6:=(hP6.below hby).e4;have hQ7:=(hP5.below hby).lt;have hQ8:=(hP6.below hby).lt))
       go_meet
       exact⟨rfl,hby⟩
    case rest=>as_aux_lemma=>
     obtain⟨rfl,hbx⟩:=hcut;have hXx:=hX2.below hbx hX2.lt;have hGx:=hG2.below hbx hG2.lt;have HBx:=Lh (HB2.out.trans (hbx.mono HB2.out.size));have HB5x:=Lh (HB57.out.trans (HBx.out.mono HB57.out.size));have hs5:=HB5x.out.size;obtain rfl:=HW1.out;clear HW1;obtain⟨e0,e1,g0,g1,g2,g3,g4⟩:=hXx.all;have y0:=hGx.cell 0;have y1:=hGx.cell 1;have y2:=hGx.cell 2;have yl:=hGx.lt;simp at y0 y1 y2;clear hX2 hG2 hbx hXx hGx HX7 HG7 HO5 HO6 HFW HTH HB2
     go_upto_region 10 with fail
     go_wp2_with(go_at_call 26;refine(hKE.out _ HB5x.out).mono ?_;rintro e w9 ⟨rfl,hb9⟩);go_ret;exact⟨rfl,(HB7.out.trans (HBx.out.mono HB7.out.size)).trans (hb9.mono (HB7.out.trans (HBx.out.mono HB7.out.size)).size)⟩
 · as_aux_lemma=>
   obtain⟨e0,e1,g0,g1,g2,g3,g4⟩:=hX4.all;clear hr HSW HRF;go_wp2_with fail;refine(hlv _ hB4).mono ?_;rintro e w5 ⟨rfl,hb5⟩;go_wp2;go_ret;exact⟨rfl,hB4.trans (hb5.mono hB4.size)⟩
end Go.Proofs.YthhjlbflpjhahaaGreatDoor
